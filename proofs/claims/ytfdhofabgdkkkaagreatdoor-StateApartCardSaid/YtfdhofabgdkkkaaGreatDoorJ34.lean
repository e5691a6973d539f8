/- A part of the proof that what the machine is told keeps its bounds. -/
import Derived.Test.YtfdhofabgdkkkaaGreatDoorJ33
import Derived.Maps.OwnSet
import Derived.DeepKeys4
import Derived.Lib.Hide
import Derived.WalkKit
import Derived.WalkSpells
import Derived.WalkLawsBesides
import Derived.BigQuiet
import Derived.OwnWalk
import Derived.Carry
import Derived.StillTailTactics
import Derived.Deep.QuietTactic
set_option maxHeartbeats 128000000
set_option maxRecDepth 100000
namespace Go.Proofs.YtfdhofabgdkkkaaGreatDoor
open Lib renaming hid→zz
open Go.RowKit Go.Fm Go.Maps
set_option linter.unusedVariables false
set_option linter.unusedSimpArgs false
structure Key where
 g:ByteArray
 t:ByteArray
 i:Int
deriving DecidableEq
def jc (k:Key):Value:=.agg #[.string k.g,.string k.t,.int .i64 k.i]
structure yf (k:Key):Prop where
 g:k.g.size≤maxLen
 t:k.t.size≤maxLen
 i:(Lit.int .i64 k.i).wf=true
def jC (k:Key):Lit:=.string (keyBytes [.string k.g.data.toList,.string k.t.data.toList,.int .i64 k.i])
theorem olaidOut:laidOutB Tryz.prog=true:=by kernel_rfl
theorem zLv:Keyed Tryz.prog 273:=Keyed.of_law (deep_law_laid olaidOut (m:=3) (by omega) (of_decide_eq_true (by kernel_rfl)) (by kernel_rfl) (by rw [Tryz.underlying273]))
theorem oq9:Tryz.prog.cellsOf 9=1:=by kernel_rfl
theorem oq3:Tryz.prog.cellsOf 3=1:=by kernel_rfl
theorem q29:Tryz.prog.cellsOf 169=2:=by kernel_rfl
theorem q36:Tryz.prog.cellsOf 273=3:=by kernel_rfl
theorem ksize:∃d,Tryz.prog.types.size+1=d+1+1+1:=⟨431,by kernel_rfl⟩
theorem kType:Tryz.prog.keyType 273=true:=by kernel_rfl
theorem kl9 (d:Nat) (v:Value):Tryz.prog.keyLits (d+1) 9 [v]=match v with | .string s=>if s.size≤maxLen then some [.string s.data.toList] else none | _=>none:=by
 unfold Program.keyLits;simp only [Tryz.underlying9];cases v <;> rfl
theorem kl3 (d:Nat) (v:Value):Tryz.prog.keyLits (d+1) 3 [v]=match v with | .int q n=>if q=.i64∧(Lit.int .i64 n).wf=true then some [.int .i64 n] else none | _=>none:=by
 unfold Program.keyLits;simp only [Tryz.underlying3];cases v <;> rfl
theorem kl29' (d:Nat) (v u:Value) (A B:Option (List Lit)) (h1:Tryz.prog.keyLits d 9 [v]=A) (h2:Tryz.prog.keyLits d 3 [u]=B):Tryz.prog.keyLits (d+1) 169 [v,u]=A.bind fun x=>B.bind fun y=>some (x++y):=by
 unfold Program.keyLits;simp only [Tryz.underlying169,q29];cases A <;> cases B <;> simp [oq9,oq3,h1,h2]
theorem kl29 (d:Nat) (v u:Value):Tryz.prog.keyLits (d+1) 169 [v,u]=(Tryz.prog.keyLits d 9 [v]).bind fun x=>(Tryz.prog.keyLits d 3 [u]).bind fun y=>some (x++y):=kl29' d v u _ _ rfl rfl
theorem kl36' (d:Nat) (v u t:Value) (A B:Option (List Lit)) (h1:Tryz.prog.keyLits d 9 [v]=A) (h2:Tryz.prog.keyLits d 169 [u,t]=B):Tryz.prog.keyLits (d+1) 273 [v,u,t]=A.bind fun x=>B.bind fun y=>some (x++y):=by
 unfold Program.keyLits;simp only [Tryz.underlying273,q36];cases A <;> cases B <;> simp [oq9,q29,h1,h2]
theorem kl36 (d:Nat) (v u t:Value):Tryz.prog.keyLits (d+1) 273 [v,u,t]=(Tryz.prog.keyLits d 9 [v]).bind fun x=>(Tryz.prog.keyLits d 169 [u,t]).bind fun y=>some (x++y):=kl36' d v u t _ _ rfl rfl
theorem zAd {k:Key} (h:yf k):keyOf Tryz.prog 273 (jc k)=some (jC k):=by
 unfold keyOf;rw [Tryz.underlying273];obtain ⟨d,hd⟩:=ksize;simp only [kType,jc,Value.formed,Tryz.underlying273,q36,List.size_toArray,List.length_cons,List.length_nil,Nat.zero_add,Nat.reduceAdd,BEq.rfl,Bool.true_and,if_true,Value.cells,hd];rw [kl36,kl29,kl9,kl9,kl3];simp [h.g,h.t,h.i,jC]
theorem zKj {v:Value} {l:Lit} (h:keyOf Tryz.prog 273 v=some l):∃k,yf k∧v=jc k∧l=jC k:=by
 simp only [keyOf,Tryz.underlying273] at h;obtain ⟨d,hd⟩:=ksize;simp only [kType,Bool.true_and,hd] at h;split at h
 ·rename_i hf
  cases v <;> simp [Value.formed,Tryz.underlying273,q36] at hf
  rename_i cs
  obtain ⟨l0⟩:=cs;simp at hf
  match l0,hf with
  | [c0,c1,c2],_=>
   simp only [Value.cells] at h;rw [kl36,kl29,kl9,kl9,kl3] at h;cases c0 <;> try (simp at h; done)
   cases c1 <;> try (simp at h; done)
   cases c2 <;> try (simp at h; done)
   rename_i a b q n hx
   by_cases hg:a.size≤maxLen
   ·by_cases ht:b.size≤maxLen
    ·by_cases hi:q=.i64∧(Lit.int .i64 n).wf=true
     ·obtain ⟨rfl,hi⟩:=hi
      simp only [hg,ht,hi,if_true,and_self,Option.bind_some,Option.map_some] at h;injection h with h
      exact ⟨⟨a,b,n⟩,⟨hg,ht,hi⟩,rfl,h.symm⟩
     ·simp [hi] at h
    ·simp [ht] at h
   ·simp [hg] at h
 ·cases h
theorem zOt {a b:Key} (h:jc a=jc b):a=b:=by
 cases a; cases b
 simp [jc] at h;simp [h]
theorem zDc {a b:Key} (ha:yf a) (hb:yf b) (h:jC a=jC b):a=b:=
 zOt (zLv.inj (zAd ha) (by rw [h]; exact zAd hb))
/-! ### The table's rows -/
abbrev Row:=Key × Int
def xQ (L:List Row) (k:Key):Option Int:=(L.find? fun r=>r.1=k).map (·.2)
structure kN (L:List Row):Prop where
 nodup:(L.map (·.1)).Nodup
 ok:∀r∈L,yf r.1∧(Lit.int .i64 r.2).wf=true
def dat (n:Int):DataW Unit:=.lit (.int .i64 n)
def yk (w:World) (b:Nat) (L:List Row):Prop:=
 kN L∧∃D:DataW Unit,w.ownsMap Tryz.prog 273 (plainElem Tryz.prog 3) b (Maps.size D) D∧Maps.size D=L.length∧
  (∀k,yf k→∀z,D.atKey (jC k) z=match xQ L k with | some a=>dat a | none=>z)
theorem jz {L:List Row} {k:Key} {a:Int} (h:xQ L k=some a):(k,a)∈L:=by
 unfold xQ at h;cases hf:L.find? fun r=>r.1=k with
 | none=>rw [hf] at h; cases h
 | some r=>
  rw [hf] at h;have h1:=List.find?_some hf;have h2:=List.mem_of_find?_eq_some hf;simp at h h1;obtain ⟨x,y⟩:=r;simp at h h1;subst h h1;exact h2
theorem zKk {L:List Row} {k:Key} (h:xQ L k=none):∀r∈L,r.1≠k:=by
 unfold xQ at h;simp at h;intro r hr e;exact h r.1 r.2 hr e
theorem zHn {L:List Row} (hn:(L.map (·.1)).Nodup) {k:Key} {a:Int} (h:(k,a)∈L):xQ L k=some a:=by
 cases hg:xQ L k with
 | none=>exact absurd rfl (zKk hg _ h)
 | some b=>
  have h2:=jz hg;rw [List.nodup_iff_pairwise_ne,List.pairwise_map] at hn
  have:∀(l:List Row),l.Pairwise (fun x y=>x.1≠y.1)→(k,a)∈l→(k,b)∈l→a=b:=by
   intro l
   induction l with
   | nil=>intro _ h; cases h
   | cons x r ih=>
    intro hp h3 h4;obtain ⟨p1,p2⟩:=List.pairwise_cons.1 hp;rcases List.mem_cons.1 h3 with rfl | h6
    ·rcases List.mem_cons.1 h4 with h5 | h4
     ·injection h5 with _ h5; exact h5.symm
     ·exact (p1 (k,b) h4 rfl).elim
    ·rcases List.mem_cons.1 h4 with rfl | h4
     ·exact (p1 (k,a) h6 rfl).elim
     ·exact ih p2 h6 h4
  rw [this L hn h h2]
theorem zXv {L L':List Row} (hn:(L.map (·.1)).Nodup) (hn':(L'.map (·.1)).Nodup) (h:∀k,xQ L k=xQ L' k):L.Perm L':=by
 have nd:∀l:List Row,(l.map (·.1)).Nodup→l.Nodup:=fun l h=>by
  rw [List.nodup_iff_pairwise_ne,List.pairwise_map] at h;rw [List.nodup_iff_pairwise_ne];exact h.imp fun {a b} hne e=>hne (by rw [e])
 refine (List.perm_ext_iff_of_nodup (nd _ hn) (nd _ hn')).2 fun r=>?_
 obtain ⟨k,a⟩:=r;constructor
 ·intro hm; exact jz (by rw [←h]; exact zHn hn hm)
 ·intro hm; exact jz (by rw [h]; exact zHn hn' hm)
theorem zXw {L L':List Row} (hn:(L.map (·.1)).Nodup) (h:L.Perm L') (k:Key):xQ L' k=xQ L k:=by
 have hn':(L'.map (·.1)).Nodup:=(h.map _).nodup_iff.1 hn;cases hg:xQ L k with
 | some a=>exact zHn hn' (h.mem_iff.1 (jz hg))
 | none=>
  cases hg':xQ L' k with
  | none=>rfl
  | some a=>exact absurd rfl (zKk hg _ (h.mem_iff.2 (jz hg')))
theorem zero3 (w:World):(zeroValue 3).run Tryz.prog w=.ok (.int .i64 0) w:=by kernel_rfl
theorem yk.lt {w:World} {b:Nat} {L:List Row} (h:yk w b L):b < w.heap.size:=by
 obtain ⟨-,D,h1,-⟩:=h; exact h1.lt
theorem yk.to {w w':World} {b:Nat} {L:List Row} (h:yk w b L) (hb:w'.heap[b]?=w.heap[b]?):yk w' b L:=by
 obtain ⟨h0,D,⟨es,clock,h1,h2⟩,h3⟩:=h;exact ⟨h0,D,⟨es,clock,hb.trans h1,h2⟩,h3⟩
theorem yk.fr {w w':World} {b:Nat} {L:List Row} {S:Nat→Prop} (h:yk w b L) (hf:Fr S w w') (hb:¬S b):yk w' b L:=h.to (hf.block b h.lt hb)
theorem yk.perm {w:World} {b:Nat} {L L':List Row} (h:yk w b L) (hp:L.Perm L'):yk w b L':=by
 obtain ⟨h0,D,h1,h2,h3⟩:=h;refine ⟨⟨(hp.map _).nodup_iff.1 h0.nodup,fun r hr=>h0.ok r (hp.mem_iff.2 hr)⟩,D,h1,h2.trans hp.length_eq,fun k hk z=>?_⟩;rw [h3 k hk z,zXw h0.nodup hp]
theorem yk.made (w:World):yk (w.alloc (.map #[] 0)) w.heap.size []:=
 ⟨⟨List.nodup_nil,by simp⟩,.map [],World.ownsMap_made w Tryz.prog 273 _,rfl,fun _ _ _=>rfl⟩
theorem yk.has {w:World} {b:Nat} {L:List Row} {D:DataW Unit} (h3:∀k,yf k→∀z,D.atKey (jC k) z=match xQ L k with | some a=>dat a | none=>z) {k:Key} (hk:yf k):Maps.has D (jC k)=(xQ L k).isSome:=by
 cases hf:xQ L k with
 | none=>exact has_false_of_atKey fun z=>by rw [h3 k hk,hf]
 | some x=>exact has_true_of_atKey (y:=dat x) fun z=>by rw [h3 k hk,hf]
theorem yk.look {w:World} {b:Nat} {L:List Row} (h:yk w b L) {k:Key} (hk:yf k):
  (Instr.lookup 217 (.map (some b)) (jc k) true).run Tryz.prog w=.ok (.tuple #[.int .i64 ((xQ L k).getD 0),.bool (xQ L k).isSome]) w:=by
 obtain ⟨h0,D,h1,h2,h3⟩:=h;obtain ⟨v,ps,hr,hv⟩:=h1.look_ok zLv Tryz.underlying217 (zero3 w) (plainElem_int Tryz.underlying3 (by decide)) (zAd hk);rw [hr,yk.has (w:=w) (b:=b) h3 hk];rw [h3 k hk] at hv;obtain ⟨a,rfl,ha,-⟩:=plainElem_int_inv Tryz.underlying3 hv;simp only [Prod.mk.injEq] at ha;cases hf:xQ L k with
 | none=>rw [hf] at ha; have:=ha.1; simp at this; subst this; rfl
 | some x=>rw [hf] at ha; have:=ha.1; simp [dat] at this; subst this; rfl
theorem yk.len {w:World} {b:Nat} {L:List Row} (h:yk w b L) (ty:TypeId):(Builtin.len_ #[217] ty #[.map (some b)]).run Tryz.prog w=.ok (.int .i64 (L.length:Nat)) w:=by
 obtain ⟨h0,D,h1,h2,h3⟩:=h;rw [h1.len Tryz.underlying217 ty,h2]
theorem zEe {w:World} {b n:Nat} {D:DataW Unit} (h:w.ownsMap Tryz.prog 273 (plainElem Tryz.prog 3) b n D):w.ownsMap Tryz.prog 273 (plainElem Tryz.prog 3) b (Maps.size D) D:=by
 obtain ⟨es,clock,h1,h2,h3,h4⟩:=h;exact ⟨es,clock,h1,h2,by rw [h4]; simp [Maps.size,length_sorted],h4⟩
def zFq (L:List Row) (k:Key) (a:Int):List Row:=(k,a)::L.filter fun r=>r.1≠k
def zHo (L:List Row) (k:Key):List Row:=L.filter fun r=>r.1≠k
theorem zAe (L:List Row) (p:Key→Bool) (k:Key):xQ (L.filter fun r=>p r.1) k=if p k then xQ L k else none:=by
 unfold xQ
 induction L with
 | nil=>simp
 | cons x r ih=>
  by_cases hx:x.1=k
  ·subst hx
   by_cases hp:p x.1
   ·simp [hp]
   ·simp [hp] at ih ⊢
    exact ih
  ·by_cases hp:p x.1=true <;> simp only [List.filter_cons,hp,if_true,List.find?_cons,hx,decide_false,Bool.false_eq_true,if_false] <;> exact ih
theorem getL_put (L:List Row) (k:Key) (a:Int) (k':Key):xQ (zFq L k a) k'=if k'=k then some a else xQ L k':=by
 unfold zFq;by_cases e:k'=k
 ·subst e; simp [xQ]
 ·have h1:xQ ((k,a)::L.filter fun r=>r.1≠k) k'=xQ (L.filter fun r=>r.1≠k) k':=by
   unfold xQ;rw [List.find?_cons_of_neg];simp; exact fun h=>e h.symm
  rw [h1,if_neg e]
  have:=zAe L (fun x=>x≠k) k'
  simp only [e,ne_eq,not_false_eq_true,decide_true,if_true] at this;exact this
theorem zHp (L:List Row) (k k':Key):xQ (zHo L k) k'=if k'=k then none else xQ L k':=by
 have:=zAe L (fun x=>x≠k) k'
 unfold zHo;rw [this];by_cases e:k'=k <;> simp [e]
theorem kO {L:List Row} (hn:(L.map (·.1)).Nodup) (k:Key):(zHo L k).length+(if (xQ L k).isSome then 1 else 0)=L.length:=by
 induction L with
 | nil=>simp [zHo,xQ]
 | cons x r ih=>
  obtain ⟨h1,h2⟩:=List.nodup_cons.1 hn;have ih:=ih h2;by_cases hx:x.1=k
  ·subst hx
   have:xQ r x.1=none:=by
    cases hg:xQ r x.1 with
    | none=>rfl
    | some a=>exact absurd (List.mem_map.2 ⟨_,jz hg,rfl⟩) h1
   rw [this] at ih;simp [zHo,xQ] at ih ⊢;exact ih
  ·have e1:xQ (x::r) k=xQ r k:=by unfold xQ; rw [List.find?_cons_of_neg]; simpa using hx
   rw [e1];simp [zHo,hx] at ih ⊢;omega
theorem zDd {L:List Row} (h:kN L) (k:Key):kN (zHo L k):=
 ⟨h.nodup.sublist (List.filter_sublist.map _),fun r hr=>h.ok r (List.mem_filter.1 hr).1⟩
theorem rows_put {L:List Row} (h:kN L) {k:Key} (hk:yf k) {a:Int} (ha:(Lit.int .i64 a).wf=true):kN (zFq L k a):=by
 refine ⟨?_,fun r hr=>?_⟩
 ·unfold zFq
  rw [List.map_cons,List.nodup_cons];refine ⟨fun hm=>?_,(zDd h k).nodup⟩;obtain ⟨r,hr,e⟩:=List.mem_map.1 hm
  have:=(List.mem_filter.1 hr).2
  simp at this;exact this e
 ·rcases List.mem_cons.1 hr with rfl | hr
  ·exact ⟨hk,ha⟩
  ·exact (zDd h k).ok r hr
section
variable {ops:Array Oper} {rest:List Oper} {o:Oper} {a:Act} {Q:Exit→Act→World→Prop}
theorem yk.put {w w':World} {b n:Nat} {L:List Row} {D:DataW Unit} (h0:kN L) (h1:w.ownsMap Tryz.prog 273 (plainElem Tryz.prog 3) b n D) (h2:Maps.size D=L.length)
  (h3:∀k,yf k→∀z,D.atKey (jC k) z=match xQ L k with | some a=>dat a | none=>z) {k:Key} (hk:yf k) {x:Int} (hx:(Lit.int .i64 x).wf=true)
  {m:Nat} (h4:w'.ownsMap Tryz.prog 273 (plainElem Tryz.prog 3) b m (D.put (jC k) (dat x))):yk w' b (zFq L k x):=by
 have isk:WideAt.IsKeyLit (jC k):=trivial;refine ⟨rows_put h0 hk hx,_,zEe h4,?_,fun k' hk' z=>?_⟩
 ·rw [size_put (h1.tidy zLv),yk.has (w:=w) (b:=b) h3 hk,h2]
  have:=kO h0.nodup k
  have e:(zFq L k x).length=(zHo L k).length+1:=rfl;rw [e];cases hs:(xQ L k).isSome <;> rw [hs] at this <;> simp at this ⊢ <;> omega
 ·rw [getL_put]
  by_cases e:k'=k
  ·subst e
   rw [atKey_put_same h1.isMap isk]; simp
  ·rw [atKey_put_other (fun h=>e (zDc hk' hk h)),h3 k' hk',if_neg e]
theorem zHq (w:World) (hg:o.guard=none) (m x v:Operand) (hop:o.op=Op.mapUpdate 217 m x v) (b:Nat) (L:List Row) (hm:a.eval m=.map (some b)) (ht:yk w b L) (hn:L.length < 1000000)
  (k:Key) (hx:a.eval x=jc k) (hk:yf k) (n:Int) (hv:a.eval v=.int .i64 n) (hw:(Lit.int .i64 n).wf=true)
  (hK:∀w',yk w' b (zFq L k n)→w.grownBy w' (some b)→wpList Tryz.prog ops Q rest (a.put o.dst undef) w'):wpList Tryz.prog ops Q (o::rest) a w:=by
 obtain ⟨h0,D,h1,h2,h3⟩:=ht;refine wpList_mapUpdate_own w hg m x v 217 hop 273 3 zLv Tryz.underlying217 (plainElem Tryz.prog 3) b _ D hm h1 (by rw [h2]; unfold maxLen; omega) (jc k) (.int .i64 n) _ hx hv (zAd hk) (dat n) [] (plainElem_int Tryz.underlying3 hw) fun w' h7 h8=>hK w' (yk.put h0 h1 h2 h3 hk hw h7) h8
theorem yk.del {w w':World} {b n:Nat} {L:List Row} {D:DataW Unit} (h0:kN L) (h1:w.ownsMap Tryz.prog 273 (plainElem Tryz.prog 3) b n D) (h2:Maps.size D=L.length)
  (h3:∀k,yf k→∀z,D.atKey (jC k) z=match xQ L k with | some a=>dat a | none=>z) {k:Key} (hk:yf k)
  {m:Nat} (h4:w'.ownsMap Tryz.prog 273 (plainElem Tryz.prog 3) b m (D.del (jC k))):yk w' b (zHo L k):=by
 refine ⟨zDd h0 k,_,zEe h4,?_,fun k' hk' z=>?_⟩
 ·have e1:=size_del (k:=jC k) (h1.tidy zLv)
  rw [yk.has (w:=w) (b:=b) h3 hk] at e1
  have:=kO h0.nodup k
  omega
 ·rw [zHp]
  by_cases e:k'=k
  ·subst e
   rw [atKey_del_same]; simp
  ·rw [atKey_del_other (fun h=>e (zDc hk' hk h)),h3 k' hk',if_neg e]
end
open Go.BigFrame
def zKl (s:ByteArray):Bool:=decide (1≤s.size) && decide (s.size≤100)
theorem zDe (s:ByteArray):s.toList=[]↔s.size=0:=by
 rw [Go.toList_nil_iff_emptyBytes];constructor
 ·rintro rfl; rfl
 ·intro h; exact ByteArray.size_eq_zero_iff.1 h
theorem zXx (s:ByteArray) (b:Bool) (hb:zKl s=b) (w:World):Calls Tryz.prog 262 #[.string s] w fun e w'=>e=.returned (.bool b)∧w=w':=by
 have hs:=zDe s;have hl:decide ((s.size:Int)≤100)=decide (s.size≤100):=by rw [decide_eq_decide]; omega
 have HS:=zz hs;have HB:=zz hb;have HL:=zz hl;clear hs hb hl;go_enter Tryz.func262,Tryz.ntmps262
 go_wp2_with fail
 ·go_ret
  rename_i h
  have h1:=HS.out.1 h;rw [←HB.out];simp [zKl,h1]
 ·go_ret
  rename_i h
  have h1:s.size≠0:=fun e=>h (HS.out.2 e)
  have h2:s.toList.isEmpty=false:=by simpa using h
  rw [←HB.out,h2,HL.out];simp [zKl,show 1≤s.size by omega]
def zIt (k:Key):Bool:=zKl k.g && zKl k.t && decide (0≤k.i) && decide (k.i < 16)
theorem zHr (k:Key) (b:Bool) (hb:zIt k=b) (w:World):Calls Tryz.prog 213 #[jc k] w fun e w'=>e=.returned (.bool b)∧Fr (fun _=>False) w w':=by
 have HB:=zz hb;clear hb;obtain ⟨g,t,i⟩:=k;unfold jc;go_enter Tryz.func213,Tryz.ntmps213
 go_wp2_with (go_at_call 262; refine (zXx _ _ rfl _).mono ?_; rintro e w' ⟨rfl,rfl⟩)
 ·go_ret
  rename_i h1 h2 h3
  exact ⟨by rw [←HB.out]; simp [zIt,h1,h2,h3],(Fr.same w).alloc _⟩
 ·go_ret
  rename_i h1 h2 h3
  exact ⟨by rw [←HB.out]; simp [zIt,h1,h2,show ¬0≤i by omega],(Fr.same w).alloc _⟩
 ·go_ret
  rename_i h1 h2
  exact ⟨by rw [←HB.out]; simp [zIt,h1,h2],(Fr.same w).alloc _⟩
 ·go_ret
  rename_i h1
  exact ⟨by rw [←HB.out]; simp [zIt,h1],(Fr.same w).alloc _⟩
def vP (n least:Int):Bool:=decide (least≤n) && decide (n≤1099511627776)
theorem zFa (n least:Int) (b:Bool) (hb:vP n least=b) (w:World):Calls Tryz.prog 214 #[.int .i64 n,.int .i64 least] w fun e w'=>e=.returned (.bool b)∧w=w':=by
 have HB:=zz hb;clear hb;go_enter Tryz.func214,Tryz.ntmps214
 go_wp2_with fail
 ·go_ret
  rename_i h
  exact ⟨by rw [←HB.out]; simp [vP,h],rfl⟩
 ·go_ret
  rename_i h
  exact ⟨by rw [←HB.out]; simp [vP,show ¬least≤n by omega],rfl⟩
structure Tbl (w:World) (tb mb:Nat) (room:Int) (L:List Row):Prop where
 cells:w.heap[tb]?=some (.cells #[.int .i64 room,.map (some mb)] 219 (0,0))
 map:yk w mb L
 room1:1≤room
 room2:room≤10000
 len:(L.length:Int)≤room
theorem Tbl.lt {w:World} {tb mb:Nat} {room:Int} {L:List Row} (h:Tbl w tb mb room L):tb < w.heap.size∧mb < w.heap.size:=⟨zA h.cells,h.map.lt⟩
theorem Tbl.ne {w:World} {tb mb:Nat} {room:Int} {L:List Row} (h:Tbl w tb mb room L):tb≠mb:=by
 rintro rfl;obtain ⟨-,D,⟨es,c,h1,-⟩,-⟩:=h.map;rw [h.cells] at h1; cases h1
theorem Tbl.to {w w':World} {tb mb:Nat} {room:Int} {L:List Row} (h:Tbl w tb mb room L) (h1:w'.heap[tb]?=w.heap[tb]?) (h2:w'.heap[mb]?=w.heap[mb]?):Tbl w' tb mb room L:=
 ⟨h1.trans h.cells,h.map.to h2,h.room1,h.room2,h.len⟩
theorem Tbl.fr {w w':World} {tb mb:Nat} {room:Int} {L:List Row} {S:Nat→Prop} (h:Tbl w tb mb room L) (hf:Fr S w w') (h1:¬S tb) (h2:¬S mb):Tbl w' tb mb room L:=
 h.to (hf.block _ h.lt.1 h1) (hf.block _ h.lt.2 h2)
theorem Tbl.old {w w':World} {tb mb:Nat} {room:Int} {L:List Row} (h:Tbl w tb mb room L) (hf:Fr (fun _=>False) w w'):Tbl w' tb mb room L:=h.fr hf (fun h=>h) (fun h=>h)
def oNewPost (n:Int) (w:World) (e:Ending) (w':World):Prop:=∃tb mb,e=.returned (.tuple #[.pointer (some ⟨tb,0,none⟩),.int .i64 0])∧Tbl w' tb mb n []∧w.heap.size≤tb∧w.heap.size≤mb∧Fr (fun _=>False) w w'
theorem new_yes (n:Int) (h1:1≤n) (h2:n≤10000) (w:World):Calls Tryz.prog 66 #[.int .i64 n] w (oNewPost n w):=by
 have hmm:=@run_makeMap Tryz.prog;have e1:decide (n < 1)=false:=by simp; omega
 have e2:decide (10000 < n)=false:=by simp; omega
 go_enter Tryz.func66,Tryz.ntmps66
 go_wp2_with fail
 go_ret2
 exact ⟨_,_,rfl,⟨by have:=zC (w.alloc (.map #[] 0)) (.cells #[.int .i64 n,.map (some w.heap.size)] 219); simpa using this,
  (yk.made w).to (zF _ (by simp)),h1,h2,by simp; omega⟩,by simp,Nat.le_refl _,((Fr.same w).alloc _).alloc _⟩
def zUb (L:List Row) (k:Key) (w:World) (e:Ending) (w':World):Prop:=e=.returned (.tuple #[.int .i64 ((xQ L k).getD 0),.bool (xQ L k).isSome])∧Fr (fun _=>False) w w'
theorem get_walk (k:Key) (hk:yf k) (tb mb:Nat) (room:Int) (L:List Row) (w:World) (h:Tbl w tb mb room L):Calls Tryz.prog 147 #[.pointer (some ⟨tb,0,none⟩),jc k] w (zUb L k w):=by
 have h1:=h.old ((Fr.same w).alloc (.cells #[.string k.g,.string k.t,.int .i64 k.i] 273));have c0:=zB h1.cells 0;have c1:=zB h1.cells 1;have look:=fun n=>(h1.map.to (w':=(w.alloc (.cells #[.string k.g,.string k.t,.int .i64 k.i] 273)).drewN n) rfl).look hk
 unfold zUb;obtain ⟨o,ho⟩:∃o,o=xQ L k:=⟨_,rfl⟩;rw [←ho] at look ⊢;have H1:=zz h1;clear h1 h ho;unfold jc at look ⊢;go_enter Tryz.func147,Tryz.ntmps147
 go_wp2_with fail
 go_quiet (fail)
 go_wp2_with fail
 go_ret2
 exact ⟨rfl,((Fr.same w).alloc _).drewN nq⟩
def yb (room:Int) (L:List Row) (k:Key) (a:Int):Int:=
 if zIt k=true∧vP a 0=true then (if (xQ L k).isSome=true∨(L.length:Int) < room then 0 else 5) else 1
def jJ (room:Int) (L:List Row) (k:Key) (a:Int):List Row:=
 if yb room L k a=0 then zFq L k a else L
theorem may_ok {k:Key} (h:zIt k=true):yf k:=by
 simp [zIt,zKl] at h;obtain ⟨⟨⟨⟨h1,h2⟩,h3,h4⟩,h5⟩,h6⟩:=h;exact ⟨by unfold maxLen; omega,by unfold maxLen; omega,by simp [Lit.wf,IntKind.min,IntKind.max,IntKind.signed,IntKind.bits]; omega⟩
theorem zXy {a:Int} (h:vP a 0=true):(Lit.int .i64 a).wf=true:=by
 simp [vP] at h;simp [Lit.wf,IntKind.min,IntKind.max,IntKind.signed,IntKind.bits]; omega
def zBw (tb mb:Nat) (room:Int) (L:List Row) (k:Key) (a:Int) (w:World) (e:Ending) (w':World):Prop:=
 e=.returned (.int .i64 (yb room L k a))∧Tbl w' tb mb room (jJ room L k a)∧Fr (fun i=>i=mb) w w'
theorem zUc {L:List Row} (hn:(L.map (·.1)).Nodup) (k:Key) (a:Int):(zFq L k a).length=if (xQ L k).isSome=true then L.length else L.length+1:=by
 have h1:=kO hn k;have h2:(zFq L k a).length=(zHo L k).length+1:=rfl;rw [h2];cases hs:(xQ L k).isSome <;> rw [hs] at h1 <;> simp at h1 ⊢ <;> omega
theorem zOu (k:Key) (a:Int) (tb mb:Nat) (room:Int) (L:List Row) (w:World) (h:Tbl w tb mb room L):Calls Tryz.prog 146 #[.pointer (some ⟨tb,0,none⟩),jc k,.int .i64 a] w (zBw tb mb room L k a w):=by
 by_cases hm:zIt k=true
 ·by_cases ha:vP a 0=true
  ·have hk:=may_ok hm
   have HM:=zz hm;have HA:=zz ha;have HK:=zz hk;have hr1:=h.room1;have hr2:=h.room2;have hln:=h.len;have H:=zz h;obtain ⟨o,ho⟩:∃o,o=xQ L k:=⟨_,rfl⟩;have HO:=zz ho;clear hm ha hk h ho;unfold jc;go_enter Tryz.func146,Tryz.ntmps146
   go_wp2_with fail
   refine (zHr k _ HM.out _).mono ?_;rintro e w2 ⟨rfl,hf⟩;have hf2:=((Fr.same w).alloc (.cells #[.string k.g,.string k.t,.int .i64 k.i] 273)).tr hf;have h2:=H.out.old hf2;have c2:=hf.cel (zD w #[.string k.g,.string k.t,.int .i64 k.i] 273 0);have c3:=hf.cel (zD w #[.string k.g,.string k.t,.int .i64 k.i] 273 1);have c4:=hf.cel (zD w #[.string k.g,.string k.t,.int .i64 k.i] 273 2);have F2:=zz hf2;have H2:=zz h2;have hlt:=hf.size;simp at hlt;clear hf hf2 h2;go_wp2_with (go_at_call 214; refine (zFa _ _ _ HA.out _).mono ?_; rintro e w' ⟨rfl,rfl⟩)
   have c0:=zB H2.out.cells 0;have c1:=zB H2.out.cells 1;have look:=fun n=>(H2.out.map.to (w':=w2.drewN n) rfl).look HK.out
   rw [←HO.out] at look;unfold jc at look;have hlen:=fun n=>(H2.out.map.to (w':=w2.drewN n) rfl).len 3
   have HW:=zz (zXy HA.out);cases o with
   | some x=>
    simp only [Option.getD_some,Option.isSome_some] at look;go_quiet (fail)
    clear look;go_wp2_with fail
    go_quiet (fail)
    go_wp2_with fail
    have x0:∀x:Lcl.InS (fun w'=>Fr (fun _=>False) w2 w'),x.w.cell? ⟨tb,1,none⟩=some (.map (some mb)):=fun x=>x.h.cel c1
    have x2:∀x:Lcl.InS (fun w'=>Fr (fun _=>False) w2 w'),x.w.cell? ⟨w.heap.size,0,none⟩=some (.string k.g):=fun x=>x.h.cel c2
    have x3:∀x:Lcl.InS (fun w'=>Fr (fun _=>False) w2 w'),x.w.cell? ⟨w.heap.size,1,none⟩=some (.string k.t):=fun x=>x.h.cel c3
    have x4:∀x:Lcl.InS (fun w'=>Fr (fun _=>False) w2 w'),x.w.cell? ⟨w.heap.size,2,none⟩=some (.int .i64 k.i):=fun x=>x.h.cel c4
    refine Lcl.wp_region_calm (by kernel_rfl) [(true,[0,1,2,5]),(false,[3,4])] #[0,1,3,7,0,0,63] [0,1,2,3,4,5] 1 #[true,true,true,true,true,true,false] (by kernel_rfl) (by kernel_rfl) (by kernel_rfl) (fun w'=>Fr (fun _=>False) w2 w') (((Fr.same w2).drewN _).drewN _).drew (fun d c a v w h=>by cases d <;> exact h) ?_;simp only [Lcl.opsOf,List.map_cons,List.map_nil,List.getElem?_toArray,List.getElem?_cons_succ,List.getElem?_cons_zero,Option.getD_some];refine Lcl.wpCalm_t ?_
    repeat (go_big_quiet_step (rfl))
    refine wpQuiet_nil ?_;refine Lcl.wpCalm_f ?_
    repeat (go_big_quiet_step (rfl))
    refine wpQuiet_nil ?_;refine Lcl.wpCalm_nil ?_;clear x0 x2 x3 x4;refine Lcl.wpG_run [6] _ _ _ (by kernel_rfl) ?_;simp only [List.map_cons,List.map_nil,List.getElem?_toArray,List.getElem?_cons_succ,List.getElem?_cons_zero,Option.getD_some];refine zHq _ rfl _ _ _ rfl mb L rfl (H2.out.map.to rfl) (by omega) k rfl HK.out a rfl HW.out ?_;intro w5 ht5 hg5;have hf5:Fr (fun i=>i=mb) w2 w5:=Fr.grown (((Fr.refl _ w2).drewN _).drewN _).drew hg5 fun i e=>by cases e; exact .inl rfl
    have hc5:w5.heap[tb]?=some (.cells #[.int .i64 room,.map (some mb)] 219 (0,0)):=(hf5.block tb H2.out.lt.1 H2.out.ne).trans H2.out.cells;have T5:=zz ht5;have F5:=zz hf5;have C5:=zz hc5;clear ht5 hg5 hf5 hc5;go_wp2_with fail
    go_ret
    have hE:yb room L k a=0:=by unfold yb; rw [if_pos ⟨HM.out,HA.out⟩,if_pos (.inl (by rw [←HO.out]; rfl))]
    have hL:jJ room L k a=zFq L k a:=by unfold jJ; rw [if_pos hE]
    refine ⟨by rw [hE]; rfl,?_,(F2.out.mono fun i e=>e.elim).trans F5.out fun i e=>.inl e⟩;rw [hL];refine ⟨C5.out,T5.out,hr1,hr2,?_⟩;rw [zUc H2.out.map.1.nodup,←HO.out]
    simpa using hln
   | none=>
    simp only [Option.getD_none,Option.isSome_none] at look;by_cases hfull:(L.length:Int) < room
    ·have hd:decide (room≤(L.length:Int))=false:=by simp; omega
     go_quiet (fail)
     clear look;go_wp2_with fail
     go_quiet (fail)
     clear hlen;go_wp2_with fail
     have x0:∀x:Lcl.InS (fun w'=>Fr (fun _=>False) w2 w'),x.w.cell? ⟨tb,1,none⟩=some (.map (some mb)):=fun x=>x.h.cel c1
     have x2:∀x:Lcl.InS (fun w'=>Fr (fun _=>False) w2 w'),x.w.cell? ⟨w.heap.size,0,none⟩=some (.string k.g):=fun x=>x.h.cel c2
     have x3:∀x:Lcl.InS (fun w'=>Fr (fun _=>False) w2 w'),x.w.cell? ⟨w.heap.size,1,none⟩=some (.string k.t):=fun x=>x.h.cel c3
     have x4:∀x:Lcl.InS (fun w'=>Fr (fun _=>False) w2 w'),x.w.cell? ⟨w.heap.size,2,none⟩=some (.int .i64 k.i):=fun x=>x.h.cel c4
     refine Lcl.wp_region_calm (by kernel_rfl) [(true,[0,1,2,5]),(false,[3,4])] #[0,1,3,7,0,0,63] [0,1,2,3,4,5] 1 #[true,true,true,true,true,true,false] (by kernel_rfl) (by kernel_rfl) (by kernel_rfl) (fun w'=>Fr (fun _=>False) w2 w') (((Fr.same w2).drewN _).drewN _).drew (fun d c a v w h=>by cases d <;> exact h) ?_;simp only [Lcl.opsOf,List.map_cons,List.map_nil,List.getElem?_toArray,List.getElem?_cons_succ,List.getElem?_cons_zero,Option.getD_some];refine Lcl.wpCalm_t ?_
     repeat (go_big_quiet_step (rfl))
     refine wpQuiet_nil ?_;refine Lcl.wpCalm_f ?_
     repeat (go_big_quiet_step (rfl))
     refine wpQuiet_nil ?_;refine Lcl.wpCalm_nil ?_;clear x0 x2 x3 x4;refine Lcl.wpG_run [6] _ _ _ (by kernel_rfl) ?_;simp only [List.map_cons,List.map_nil,List.getElem?_toArray,List.getElem?_cons_succ,List.getElem?_cons_zero,Option.getD_some];refine zHq _ rfl _ _ _ rfl mb L rfl (H2.out.map.to rfl) (by omega) k rfl HK.out a rfl HW.out ?_;intro w5 ht5 hg5;have hf5:Fr (fun i=>i=mb) w2 w5:=Fr.grown (((Fr.refl _ w2).drewN _).drewN _).drew hg5 fun i e=>by cases e; exact .inl rfl
     have hc5:w5.heap[tb]?=some (.cells #[.int .i64 room,.map (some mb)] 219 (0,0)):=(hf5.block tb H2.out.lt.1 H2.out.ne).trans H2.out.cells;have T5:=zz ht5;have F5:=zz hf5;have C5:=zz hc5;clear ht5 hg5 hf5 hc5;go_wp2_with fail
     go_ret
     have hE:yb room L k a=0:=by unfold yb; rw [if_pos ⟨HM.out,HA.out⟩,if_pos (.inr hfull)]
     have hL:jJ room L k a=zFq L k a:=by unfold jJ; rw [if_pos hE]
     refine ⟨by rw [hE]; rfl,?_,(F2.out.mono fun i e=>e.elim).trans F5.out fun i e=>.inl e⟩;rw [hL];refine ⟨C5.out,T5.out,hr1,hr2,?_⟩;rw [zUc H2.out.map.1.nodup,←HO.out];simp; omega
    ·have hd:decide (room≤(L.length:Int))=true:=by simp; omega
     go_quiet (fail)
     clear look;go_wp2_with fail
     go_quiet (fail)
     clear hlen;go_wp2_with fail
     go_ret
     have hE:yb room L k a=5:=by unfold yb; rw [if_pos ⟨HM.out,HA.out⟩,if_neg (by rw [←HO.out]; simp; omega)]
     have hL:jJ room L k a=L:=by unfold jJ; rw [if_neg (by rw [hE]; decide)]
     refine ⟨by rw [hE]; rfl,?_,(F2.out.drewN _).drewN _ |>.mono fun i e=>e.elim⟩;rw [hL];exact H2.out.to rfl rfl
  ·have hE:yb room L k a=1:=by unfold yb; rw [if_neg (fun e=>ha e.2)]
   have hL:jJ room L k a=L:=by unfold jJ; rw [if_neg (by rw [hE]; decide)]
   unfold zBw;rw [hE,hL];have ha:vP a 0=false:=by simpa using ha
   have HM:=zz hm;have HA:=zz ha;have H:=zz h;clear hm ha h hE hL;unfold jc;go_enter Tryz.func146,Tryz.ntmps146
   go_wp2_with fail
   refine (zHr k _ HM.out _).mono ?_;rintro e w2 ⟨rfl,hf⟩;have hf2:=((Fr.same w).alloc (.cells #[.string k.g,.string k.t,.int .i64 k.i] 273)).tr hf;have F2:=zz hf2;clear hf hf2;go_wp2_with (go_at_call 214; refine (zFa _ _ _ HA.out _).mono ?_; rintro e w' ⟨rfl,rfl⟩)
   go_ret
   exact ⟨rfl,H.out.old F2.out,F2.out.mono fun i e=>e.elim⟩
 ·have hE:yb room L k a=1:=by unfold yb; rw [if_neg (fun e=>hm e.1)]
  have hL:jJ room L k a=L:=by unfold jJ; rw [if_neg (by rw [hE]; decide)]
  unfold zBw;rw [hE,hL];have hm:zIt k=false:=by simpa using hm
  have HM:=zz hm;have H:=zz h;clear hm h hE hL;unfold jc;go_enter Tryz.func146,Tryz.ntmps146
  go_wp2_with fail
  refine (zHr k _ HM.out _).mono ?_;rintro e w2 ⟨rfl,hf⟩;have hf2:=((Fr.same w).alloc (.cells #[.string k.g,.string k.t,.int .i64 k.i] 273)).tr hf;have F2:=zz hf2;clear hf hf2;go_wp2_with fail
  go_ret
  exact ⟨rfl,H.out.old F2.out,F2.out.mono fun i e=>e.elim⟩
end Go.Proofs.YtfdhofabgdkkkaaGreatDoor
