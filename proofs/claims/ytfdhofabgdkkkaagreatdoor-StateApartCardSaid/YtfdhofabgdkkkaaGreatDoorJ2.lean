/- A part of the proof that what the machine is told keeps its bounds. -/
import Derived.Orders
import Derived.OrdersHeld
import Derived.StillTail
import Derived.Deep.Quiet
set_option maxHeartbeats 128000000
set_option maxRecDepth 100000
namespace Go.Lcl
open Go
section
variable {P:Program} {ops:Array Oper} {Q:Exit→Act→World→Prop} {C:World→Prop}
def Y2 (P:Program) (ops:Array Oper) (C:World→Prop) (pl:Bool) (o:Oper) (v:Value) (a:Act):Prop:=
 if pl then YieldsIn P ops (fun _=>True) o v a∧Yields P ops o v a else YieldsIn P ops C o v a
def zMk (P:Program) (ops:Array Oper) (C:World→Prop) (K:Act→Prop):List (Bool × Oper)→Act→Prop
 | [],a=>K a
 | (pl,o)::rest,a=>∃v,Y2 P ops C pl o v a∧zMk P ops C K rest (a.put o.dst v)
def uE (ops:Array Oper) (i:Nat):Option Tmp:=(ops[i]?).bind (·.dst)
def xD (ops:Array Oper) (vals:Nat→Value) (D:Nat→Bool):List Nat→Act→Act
 | [],a=>a
 | i::r,a=>xD ops vals D r (if D i then a.put (uE ops i) (vals i) else a)
theorem zUk (vals:Nat→Value) (D:Nat→Bool) (d:Option Tmp) (v:Value):∀(l:List Nat) (a:Act),(∀i∈l,∀t,d=some t→uE ops i≠some t)→
  xD ops vals D l (a.put d v)=(xD ops vals D l a).put d v:=by
 intro l;induction l with
 | nil=>intro a _; rfl
 | cons i r ih=>
  intro a h;simp only [xD];by_cases hi:D i=true
  ·simp only [hi,if_true]
   rw [Act.put_comm a v (vals i) (fun t ht=>h i (by simp) t ht)];exact ih _ fun k hk=>h k (by simp [hk])
  ·simp only [hi,Bool.false_eq_true,if_false]
   exact ih _ fun k hk=>h k (by simp [hk])
theorem zEi (vals:Nat→Value) {D D':Nat→Bool} :∀(l:List Nat) (a:Act),(∀i∈l,D i=D' i)→xD ops vals D l a=xD ops vals D' l a:=by
 intro l;induction l with
 | nil=>intro a _; rfl
 | cons i r ih=>
  intro a h;simp only [xD,h i (by simp)];exact ih _ fun k hk=>h k (by simp [hk])
def Dsts (ops:Array Oper) (l:List Nat):Prop:=l.Pairwise fun i j=>∀t,uE ops i=some t→uE ops j≠some t
theorem zUl (vals:Nat→Value) {D D':Nat→Bool} {j:Nat} (hD:∀i,i≠j→D' i=D i) (hj:D j=false) (hj':D' j=true):
  ∀(l:List Nat) (a:Act),l.Nodup→Dsts ops l→j∈l→xD ops vals D' l a=(xD ops vals D l a).put (uE ops j) (vals j):=by
 intro l;induction l with
 | nil=>intro a _ _ h; cases h
 | cons i r ih=>
  intro a hn hd hm;have hn':=List.nodup_cons.1 hn;have hd':=List.pairwise_cons.1 hd;by_cases hij:i=j
  ·subst hij
   simp only [xD,hj,hj',if_true,Bool.false_eq_true,if_false];rw [zUk vals D' _ _ r a (fun k hk t ht=>hd'.1 k hk t ht)];congr 1
   exact zEi vals r a fun k hk=>hD k fun e=>hn'.1 (e ▸ hk)
  ·have hm':j∈r:=by
    rcases List.mem_cons.1 hm with h | h
    ·exact absurd h.symm hij
    ·exact h
   simp only [xD,hD i hij];exact ih _ hn'.2 hd'.2 hm'
def Agr (X:List Tmp) (a a':Act):Prop:=a.tmps.size=a'.tmps.size∧∀t∈X,a.tmps[t]?=a'.tmps[t]?
theorem Agr.put {X:List Tmp} {a a':Act} (h:Agr X a a') (d:Option Tmp) (v:Value):Agr X (a.put d v) (a'.put d v):=by
 cases d with
 | none=>exact h
 | some t=>
  refine ⟨by simp [Act.put,h.1],fun u hu=>?_⟩;by_cases e:t=u
  ·subst e; simp only [Act.put,Array.getElem?_setIfInBounds_self,h.1]
  ·simp only [Act.put,Array.getElem?_setIfInBounds_ne e]; exact h.2 u hu
theorem Agr.put_left {X:List Tmp} {a a':Act} (h:Agr X a a') {d:Option Tmp} (v:Value) (hd:∀t,d=some t→t ∉ X):Agr X (a.put d v) a':=by
 cases d with
 | none=>exact h
 | some t=>
  refine ⟨by simp [Act.put,h.1],fun u hu=>?_⟩;have e:t≠u:=fun e=>hd t rfl (e ▸ hu)
  simp only [Act.put,Array.getElem?_setIfInBounds_ne e]; exact h.2 u hu
theorem Agr.symm {X:List Tmp} {a a':Act} (h:Agr X a a'):Agr X a' a:=⟨h.1.symm,fun t ht=>(h.2 t ht).symm⟩
theorem Agr.refl (X:List Tmp) (a:Act):Agr X a a:=⟨rfl,fun _ _=>rfl⟩
theorem zIw (X:List Tmp) (vals:Nat→Value) {D D':Nat→Bool} :∀(l:List Nat) (a a':Act),Agr X a a'→(∀i∈l,D i≠D' i→∀t,uE ops i=some t→t ∉ X)→
  Agr X (xD ops vals D l a) (xD ops vals D' l a'):=by
 intro l;induction l with
 | nil=>intro a a' h _; exact h
 | cons i r ih=>
  intro a a' h hX;simp only [xD];refine ih _ _ ?_ fun k hk=>hX k (by simp [hk])
  by_cases h1:D i=true <;> by_cases h2:D' i=true
  ·simp only [h1,h2,if_true]; exact h.put _ _
  ·simp only [h1,h2,if_true,Bool.false_eq_true,if_false]
   exact h.put_left _ (hX i (by simp) (by rw [h1]; simpa using h2))
  ·simp only [h1,h2,if_true,Bool.false_eq_true,if_false]
   exact (h.symm.put_left _ (hX i (by simp) (by rw [h2]; simpa using h1))).symm
  ·simp only [h1,h2,Bool.false_eq_true,if_false]; exact h
theorem Agr.exec {o:Oper} (hs:∀cs b,o.op≠.select cs b) {a a':Act} (h:Agr (o.looksAt ops) a a'):execOp a.eval o=execOp a'.eval o:=
 execOp_congr o hs fun x hx=>by
  cases x with
  | tmp t=>
   have:=h.2 t (List.mem_append_left _ (List.mem_filterMap.2 ⟨.tmp t,by simpa using hx,rfl⟩))
   simp [Act.eval,this]
  | _=>rfl
theorem Agr.wanted {o:Oper} {a a':Act} (h:Agr (o.looksAt ops) a a'):Region.wanted o (yielded ops a.tmps)=Region.wanted o (yielded ops a'.tmps):=by
 unfold Region.wanted;cases hg:o.guard with
 | none=>rfl
 | some gw=>
  obtain ⟨g,want⟩:=gw;have hy:yielded ops a.tmps g=yielded ops a'.tmps g:=by
   unfold yielded;cases ht:(ops[g]?).bind (·.dst) with
   | none=>rfl
   | some t=>
    have:=h.2 t (by simp [Oper.looksAt,hg,ht])
    simp [this]
  simp only [hy]
theorem Y2.agr {pl:Bool} {o:Oper} (hs:∀cs b,o.op≠.select cs b) {v:Value} {a a':Act} (h:Agr (o.looksAt ops) a' a) (hy:Y2 P ops C pl o v a):Y2 P ops C pl o v a':=by
 have he:=h.exec hs;have hw:=h.wanted;unfold Y2 at *;split
 ·rename_i hp; rw [if_pos hp] at hy; exact ⟨hy.1.of_same he hw,hy.2.of_same he hw⟩
 ·rename_i hp; rw [if_neg hp] at hy; exact hy.of_same he hw
def isIn (B:List (Bool × Nat)) (i:Nat):Bool:=B.any fun x=>x.2 == i
def zAo (o:Oper) (i:Nat):Bool:=o.after.toList.any fun e=>Region.binds .any e && e.on == i
def zPr (ops:Array Oper):List Nat→List (Bool × Nat)→Bool
 | _,[]=>true
 | seen,(_,i)::r=>(match ops[i]? with
   | none=>false
   | some o=>!seen.contains i && o.after.all fun e=>!Region.binds .any e || seen.contains e.on) && zPr ops (i::seen) r
def zKs (ops:Array Oper) (B:List (Bool × Nat)):Bool:=
 B.all fun x=>match ops[x.2]? with
  | none=>false
  | some oi=>(List.range ops.size).all fun j=>j == x.2 || match ops[j]? with
    | none=>true
    | some oj=>if x.1 || isIn B j then zAo oj x.2 || ((match oi.dst with | some d=>!(oj.looksAt ops).contains d | none=>true) && (!x.1 || zAo oi j || oi.apart ops oj)) else true
def zPs (ops:Array Oper) (B:List (Bool × Nat)) (m:Array Nat):Bool:=
 ((List.range ops.size).all fun j=>match ops[j]? with
  | none=>true
  | some oj=>B.all fun x=>x.1 || !(m.getD j 0).testBit x.2 || oj.after.any fun e=>Region.binds .any e && (e.on == x.2 || (m.getD e.on 0).testBit x.2)) &&
 ((List.range ops.size).all fun j=>isIn B j || B.all fun x=>x.1 || (m.getD j 0).testBit x.2)
def zSs (ops:Array Oper) (B:List (Bool × Nat)):Bool:=
 B.all fun x=>match ops[x.2]? with
  | none=>false
  | some o=>(match o.dst with | some d=>!(o.looksAt ops).contains d | none=>true) && B.all fun y=>x.2 == y.2 || o.dst.isNone || uE ops y.2 != o.dst
def okB (ops:Array Oper) (B:List (Bool × Nat)) (m:Array Nat):Bool:=Region.noSelect ops && zPr ops [] B && zKs ops B && zSs ops B && zPs ops B m
def uj (l:Array Bool) (is:List Nat):Array Bool:=is.foldl (fun l i=>l.setIfInBounds i true) l
theorem uA {l:Array Bool} {i:Nat} (h:i < l.size):(l.setIfInBounds i true).getD i false=true:=by
 simp [h]
theorem yY {l:Array Bool} {i:Nat} (h:l.getD i true=false):l.getD i false=false∧i < l.size:=by
 rcases Nat.lt_or_ge i l.size with h' | h'
 ·simp [h'] at h ⊢; exact h
 ·simp [Array.getElem?_eq_none h'] at h
theorem zBn {l:Array Bool} {i:Nat} (hi:i < l.size) (h:l.getD i false=false):l.getD i true=false:=by
 simp [hi] at h ⊢; exact h
theorem zDl:∀(B:List (Bool × Nat)) (seen:List Nat),zPr ops seen B=true→
  (B.map (·.2)).Nodup∧(∀x∈B,x.2 ∉ seen)∧(∀x∈B,∃o,ops[x.2]?=some o)∧
  ∀pre x post,B=pre++x::post→∀o,ops[x.2]?=some o→∀e∈o.after,Region.binds .any e=true→e.on∈seen∨e.on∈pre.map (·.2):=by
 intro B;induction B with
 | nil=>intro seen _; refine ⟨List.nodup_nil,by simp,by simp,by simp⟩
 | cons x r ih=>
  intro seen h;obtain ⟨pl,i⟩:=x;simp only [zPr,Bool.and_eq_true] at h;obtain ⟨h1,h2⟩:=h;cases ho:ops[i]? with
  | none=>simp [ho] at h1
  | some o=>
   simp only [ho,Bool.and_eq_true,Bool.not_eq_true',List.contains_eq_mem,decide_eq_false_iff_not,Array.all_eq_true_iff_forall_mem,Bool.or_eq_true,decide_eq_true_eq] at h1;obtain ⟨hn,hs,he,hp⟩:=ih (i::seen) h2;refine ⟨?_,?_,?_,?_⟩
   ·simp only [List.map_cons,List.nodup_cons]
    refine ⟨fun hm=>?_,hn⟩;obtain ⟨y,hy,hyi⟩:=List.mem_map.1 hm;exact hs y hy (by simp [hyi])
   ·intro y hy
    rcases List.mem_cons.1 hy with rfl | hy
    ·exact h1.1
    ·exact fun hm=>hs y hy (by simp [hm])
   ·intro y hy
    rcases List.mem_cons.1 hy with rfl | hy
    ·exact ⟨o,ho⟩
    ·exact he y hy
   ·intro pre y post hB o' ho' e hee hb
    cases pre with
    | nil=>
     simp only [List.nil_append,List.cons.injEq] at hB;obtain ⟨rfl,_⟩:=hB;rw [ho] at ho';cases ho'
     rcases h1.2 e hee with h3 | h3
     ·rw [hb] at h3; cases h3
     ·exact .inl h3
    | cons z pre=>
     simp only [List.cons_append,List.cons.injEq] at hB;obtain ⟨rfl,hB⟩:=hB;rcases hp pre y post hB o' ho' e hee hb with h3 | h3
     ·rcases List.mem_cons.1 h3 with h4 | h4
      ·exact .inr (by simp [h4])
      ·exact .inl h4
     ·exact .inr (by simp only [List.map_cons,List.mem_cons]; exact .inr h3)
theorem zMl {B:List (Bool × Nat)} {i:Nat} :isIn B i=true↔i∈B.map (·.2):=by
 simp [isIn,List.any_eq_true,List.mem_map]
theorem kb {B:List (Bool × Nat)} (h:zKs ops B=true) {x:Bool × Nat} (hx:x∈B) {oi:Oper} (hi:ops[x.2]?=some oi) {j:Nat} {oj:Oper} (hj:ops[j]?=some oj) (hne:j≠x.2)
  (hin:x.1=true∨j∈B.map (·.2)) (hno:zAo oj x.2=false):(∀d,oi.dst=some d→d ∉ oj.looksAt ops)∧(x.1=true→zAo oi j=false→oi.apart ops oj=true):=by
 unfold zKs at h;have h1:=List.all_eq_true.1 h x hx;simp only [hi] at h1;have hlt:j < ops.size:=by
  rcases Nat.lt_or_ge j ops.size with h' | h'
  ·exact h'
  ·simp [Array.getElem?_eq_none h'] at hj
 have h2:=List.all_eq_true.1 h1 j (List.mem_range.2 hlt);simp only [hj,hno,Bool.false_or] at h2;rw [if_pos (by rcases hin with h3 | h3 <;> simp [h3,zMl])] at h2;have e:(j == x.2)=false:=by simpa using hne
 rw [e,Bool.false_or,Bool.and_eq_true] at h2;refine ⟨fun d hd=>?_,fun h3 h4=>?_⟩
 ·have:=h2.1
  simp only [hd] at this;simpa using this
 ·have:=h2.2
  simpa [h3,h4] using this
theorem zBo {B:List (Bool × Nat)} (h:zSs ops B=true) {x:Bool × Nat} (hx:x∈B) {o:Oper} (hi:ops[x.2]?=some o):
  (∀d,o.dst=some d→d ∉ o.looksAt ops)∧∀y∈B,y.2≠x.2→∀t,o.dst=some t→uE ops y.2≠some t:=by
 unfold zSs at h;have h1:=List.all_eq_true.1 h x hx;simp only [hi,Bool.and_eq_true] at h1;refine ⟨fun d hd=>?_,fun y hy hne t ht=>?_⟩
 ·have:=h1.1
  simpa [hd] using this
 ·have:=List.all_eq_true.1 h1.2 y hy
  simp only [ht,Option.isNone_some,Bool.or_false,Bool.or_eq_true,beq_iff_eq,bne_iff_ne,ne_eq] at this;rcases this with h3 | h3
  ·exact absurd h3.symm hne
  ·exact h3
theorem zUm {K:Act→Prop} (hns:Region.noSelect ops=true) (Ball:List (Bool × Nat)) (hap:zKs ops Ball=true) (hself:zSs ops Ball=true):
  ∀(B:List (Bool × Nat)) (seen:List Nat) (a:Act),(∀x∈B,x∈Ball)→zPr ops seen B=true→zMk P ops C K (B.map fun x=>(x.1,(ops[x.2]?).getD default)) a→
  ∃vals:Nat→Value,K (xD ops vals (fun _=>true) (B.map (·.2)) a)∧∀x∈B,∀o,ops[x.2]?=some o→Y2 P ops C x.1 o (vals x.2) (xD ops vals (fun _=>true) (B.map (·.2)) a):=by
 intro B;induction B with
 | nil=>intro seen a _ _ h; exact ⟨fun _=>undef,h,by simp⟩
 | cons x r ih=>
  intro seen a hsub ht h;obtain ⟨hnd,-,hex,htp⟩:=zDl (x::r) seen ht;obtain ⟨o,ho⟩:=hex x (by simp);have ht2:zPr ops (x.2::seen) r=true:=by
   obtain ⟨pl,i⟩:=x;simp only [zPr,Bool.and_eq_true] at ht;exact ht.2
  simp only [List.map_cons,ho,Option.getD_some,zMk] at h;obtain ⟨v,hy,hrest⟩:=h;obtain ⟨vals,hK,hall⟩:=ih _ _ (fun y hy=>hsub y (by simp [hy])) ht2 hrest;simp only [List.map_cons,List.nodup_cons] at hnd;have hcong:∀a',xD ops (fun k=>if k=x.2 then v else vals k) (fun _=>true) (r.map (·.2)) a'=xD ops vals (fun _=>true) (r.map (·.2)) a':=by
   intro a'
   have:∀(l:List Nat) (a':Act),x.2 ∉ l→xD ops (fun k=>if k=x.2 then v else vals k) (fun _=>true) l a'=xD ops vals (fun _=>true) l a':=by
    intro l;induction l with
    | nil=>intro a' _; rfl
    | cons k l ihl=>
     intro a' hk;simp only [List.mem_cons,not_or] at hk;simp only [xD,if_neg (Ne.symm hk.1)];exact ihl _ hk.2
   exact this _ _ hnd.1
  have hd:uE ops x.2=o.dst:=by simp [uE,ho]
  have hrun:xD ops (fun k=>if k=x.2 then v else vals k) (fun _=>true) ((x::r).map (·.2)) a=xD ops vals (fun _=>true) (r.map (·.2)) (a.put o.dst v):=by
   simp only [List.map_cons,xD,if_true,hd];exact hcong _
  refine ⟨fun k=>if k=x.2 then v else vals k,by rw [hrun]; exact hK,?_⟩;intro y hy' oy hoy;rw [hrun];rcases List.mem_cons.1 hy' with rfl | hyr
  ·rw [ho] at hoy
   cases hoy
   simp only [if_true];have hs:=Region.noSelect_spec hns;refine hy.agr (fun cs b=>hs _ _ cs b ho) ?_;have hl:=hself;refine Agr.symm ?_;have e0:a=xD ops vals (fun _=>false) (r.map (·.2)) a:=by
    have:∀l:List Nat,xD ops vals (fun _=>false) l a=a:=by
     intro l;induction l with
     | nil=>rfl
     | cons k l ihl=>simpa [xD] using ihl
    exact (this _).symm
   rw [e0];have e1:xD ops vals (fun _=>true) (r.map (·.2)) (xD ops vals (fun _=>false) (r.map (·.2)) a |>.put o.dst v)=xD ops vals (fun _=>true) (r.map (·.2)) (a.put o.dst v):=by rw [←e0]
   rw [e1];refine zIw _ vals _ _ _ ((Agr.refl _ _).symm.put_left v (fun t ht'=>(zBo hself (hsub y (by simp)) ho).1 t ht') |>.symm) ?_;intro k hk _ t hkt;obtain ⟨z,hz,rfl⟩:=List.mem_map.1 hk;obtain ⟨oz,hoz⟩:=hex z (by simp [hz]);have hne:y.2≠z.2:=fun e=>hnd.1 (by rw [e]; exact List.mem_map.2 ⟨z,hz,rfl⟩)
   have hno:zAo o z.2=false:=by
    rw [←Bool.not_eq_true];intro he;obtain ⟨e,hee,h2⟩:=List.any_eq_true.1 he;simp only [Bool.and_eq_true,beq_iff_eq] at h2;rcases htp [] y r rfl o ho e (Array.mem_toList_iff.1 hee) h2.1 with h3 | h3
    ·have:=(zDl r _ ht2).2.1 z hz
     rw [h2.2] at h3;exact this (by simp [h3])
    ·cases h3
   have:=kb hap (hsub z (by simp [hz])) hoz ho hne (.inr (List.mem_map.2 ⟨y,hsub y (by simp),rfl⟩)) hno
   exact this.1 t (by simpa [uE,hoz] using hkt)
  ·have hne:y.2≠x.2:=fun e=>hnd.1 (by rw [←e]; exact List.mem_map.2 ⟨y,hyr,rfl⟩)
   simp only [if_neg hne];exact hall y hyr oy hoy
def zEj (B:List (Bool × Nat)) (listed:Array Bool):Nat:=(B.filter fun x=>!listed.getD x.2 false).length
theorem zUn {B:List (Bool × Nat)} (hn:(B.map (·.2)).Nodup) {listed:Array Bool} {j:Nat} (hj:j < listed.size) (hun:listed.getD j false=false) (hm:j∈B.map (·.2)):
  zEj B listed=zEj B (listed.setIfInBounds j true)+1:=by
 unfold zEj;induction B with
 | nil=>cases hm
 | cons x r ih=>
  simp only [List.map_cons,List.nodup_cons] at hn;by_cases e:x.2=j
  ·subst e
   have h2:∀y∈r,(!(listed.setIfInBounds x.2 true).getD y.2 false)=!listed.getD y.2 false:=fun y hy=>by
    rw [getD_set_ne]; intro e; exact hn.1 (by rw [e]; exact List.mem_map.2 ⟨y,hy,rfl⟩)
   rw [List.filter_cons,List.filter_cons,uA hj,hun];simp only [Bool.not_false,if_true,Bool.not_true,Bool.false_eq_true,if_false,List.length_cons];rw [List.filter_congr h2]
  ·have hm':j∈r.map (·.2):=by
    simp only [List.map_cons,List.mem_cons] at hm;rcases hm with h | h
    ·exact absurd h.symm e
    ·exact h
   have:=ih hn.2 hm'
   rw [List.filter_cons,List.filter_cons,getD_set_ne false (Ne.symm e)];split <;> simp_all
theorem zPt {B:List (Bool × Nat)} {m:Array Nat} (h:zPs ops B m=true):
  (∀j oj,ops[j]?=some oj→∀x∈B,x.1=false→(m.getD j 0).testBit x.2=true→∃e∈oj.after,Region.binds .any e=true∧(e.on=x.2∨(m.getD e.on 0).testBit x.2=true))∧
  (∀j oj,ops[j]?=some oj→j ∉ B.map (·.2)→∀x∈B,x.1=false→(m.getD j 0).testBit x.2=true):=by
 unfold zPs at h;simp only [Bool.and_eq_true] at h;have hlt:∀j oj,ops[j]?=some oj→j∈List.range ops.size:=fun j oj hj=>by
  rcases Nat.lt_or_ge j ops.size with h' | h'
  ·exact List.mem_range.2 h'
  ·simp [Array.getElem?_eq_none h'] at hj
 refine ⟨fun j oj hj x hx hp hb=>?_,fun j oj hj hnot x hx hp=>?_⟩
 ·have h1:=List.all_eq_true.1 h.1 j (hlt j oj hj)
  simp only [hj] at h1;have h2:=List.all_eq_true.1 h1 x hx;simp only [hp,hb,Bool.false_or,Bool.not_true] at h2;obtain ⟨i,hi,h3⟩:=Array.any_eq_true.1 h2;simp only [Bool.and_eq_true,Bool.or_eq_true,beq_iff_eq] at h3;exact ⟨oj.after[i],Array.getElem_mem hi,h3.1,h3.2⟩
 ·have h1:=List.all_eq_true.1 h.2 j (hlt j oj hj)
  have hni:isIn B j=false:=by rw [←Bool.not_eq_true]; exact fun e=>hnot (zMl.1 e)
  rw [hni,Bool.false_or] at h1;have h2:=List.all_eq_true.1 h1 x hx;simpa [hp] using h2
theorem zDm {B:List (Bool × Nat)} {m:Array Nat} (hok:okB ops B m=true) {K:Act→Prop} {a0:Act} {fuel:Nat} {final:Array Bool}
  (hQ:∀d c a v w,Q (.panic c) (Act.put a d v) w→Q (.panic c) a w) (hfin:uj (Array.replicate ops.size false) (B.map (·.2))=final)
  (hK:∀a' w',C w'→K a'→wpAny P .any ops Q fuel final a' w')
  {w:World} (hC:C w) (hlex:zMk P ops C K (B.map fun x=>(x.1,(ops[x.2]?).getD default)) a0):
  wpAny P .any ops Q (B.length+fuel) (Array.replicate ops.size false) a0 w:=by
 unfold okB at hok;simp only [Bool.and_eq_true] at hok;obtain ⟨⟨⟨⟨hns,htopo⟩,hap⟩,hself⟩,hwait⟩:=hok;obtain ⟨vals,hKc,hY⟩:=zUm hns B hap hself B [] a0 (fun _ h=>h) htopo hlex;obtain ⟨hnd,-,hex,htp⟩:=zDl B [] htopo;obtain ⟨hw1,hw2⟩:=zPt hwait;have hsel:=Region.noSelect_spec hns;have hD:Dsts ops (B.map (·.2)):=by
  unfold Dsts;refine List.pairwise_map.2 ?_
  have:∀L:List (Bool × Nat),(∀x∈L,x∈B)→(L.map (·.2)).Nodup→L.Pairwise fun x y=>∀t,uE ops x.2=some t→uE ops y.2≠some t:=by
   intro L;induction L with
   | nil=>intro _ _; exact List.Pairwise.nil
   | cons x r ih=>
    intro hsub hn;simp only [List.map_cons,List.nodup_cons] at hn;refine List.pairwise_cons.2 ⟨fun y hy t ht=>?_,ih (fun z hz=>hsub z (by simp [hz])) hn.2⟩;obtain ⟨o,ho⟩:=hex x (hsub x (by simp));exact (zBo hself (hsub x (by simp)) ho).2 y (hsub y (by simp [hy])) (fun e=>hn.1 (by rw [←e]; exact List.mem_map.2 ⟨y,hy,rfl⟩)) t (by simpa [uE,ho] using ht)
  exact this B (fun _ h=>h) hnd
 have hlist:∀listed:Array Bool,listed.size=ops.size→(∀j,listed.getD j false=true→j∈B.map (·.2))→zEj B listed=0→listed=final:=by
  intro listed hs hin h0;rw [←hfin];have hB:∀j∈B.map (·.2),listed.getD j false=true:=by
   intro j hj;obtain ⟨x,hx,rfl⟩:=List.mem_map.1 hj;have h1:=List.length_eq_zero_iff.1 h0;have h2:=List.filter_eq_nil_iff.1 h1 x hx;simpa using h2
  have hmk:∀(is:List Nat) (l:Array Bool),(uj l is).size=l.size∧∀j,j < l.size→(uj l is).getD j false=(decide (j∈is) || l.getD j false):=by
   intro is;induction is with
   | nil=>intro l; exact ⟨rfl,fun j _=>by simp [uj]⟩
   | cons i r ih=>
    intro l;have h1:=ih (l.setIfInBounds i true);refine ⟨by simpa [uj] using h1.1,fun j hj=>?_⟩;have h2:=h1.2 j (by simpa using hj)
    show (uj (l.setIfInBounds i true) r).getD j false=_
    rw [h2];by_cases e:i=j
    ·subst e; rw [uA hj]; simp
    ·rw [getD_set_ne false e]; simp [Ne.symm e]
  have h1:=hmk (B.map (·.2)) (Array.replicate ops.size false);refine Array.ext_getElem? fun j=>?_
  by_cases hj:j < ops.size
  ·have h2:=h1.2 j (by simpa using hj)
   have hsz:j < (uj (Array.replicate ops.size false) (B.map (·.2))).size:=by rw [h1.1]; simpa using hj
   have h3:(Array.replicate ops.size false).getD j false=false:=by simp [hj]
   rw [h3,Bool.or_false] at h2;have h4:listed.getD j false=decide (j∈B.map (·.2)):=by
    by_cases e:j∈B.map (·.2)
    ·rw [hB j e]; simp [e]
    ·cases hv:listed.getD j false with
     | true=>exact absurd (hin j hv) e
     | false=>simp [e]
   have h5:listed.getD j false=(uj (Array.replicate ops.size false) (B.map (·.2))).getD j false:=by rw [h4,h2]
   have hj':j < listed.size:=by omega
   simp only [Array.getD_eq_getD_getElem?,Array.getElem?_eq_getElem hj',Array.getElem?_eq_getElem hsz,Option.getD_some] at h5;rw [Array.getElem?_eq_getElem hj',Array.getElem?_eq_getElem hsz,h5]
  ·rw [Array.getElem?_eq_none (by omega),Array.getElem?_eq_none (by rw [h1.1]; simp; omega)]
 have main:∀(n:Nat) (listed:Array Bool) (w':World),zEj B listed=n→listed.size=ops.size→(∀j,listed.getD j false=true→j∈B.map (·.2))→
   (∀j,listed.getD j false=true→∀x∈B,x.1=false→(m.getD j 0).testBit x.2=true→listed.getD x.2 false=true)→C w'→
   wpAny P .any ops Q (n+fuel) listed (xD ops vals (fun i=>listed.getD i false) (B.map (·.2)) a0) w':=by
  intro n;induction n with
  | zero=>
   intro listed w' h0 hs hin hcl hC';have e:=hlist listed hs hin h0;subst e;have hall:xD ops vals (fun i=>listed.getD i false) (B.map (·.2)) a0=xD ops vals (fun _=>true) (B.map (·.2)) a0:=by
    refine zEi vals _ _ fun i hi=>?_
    obtain ⟨x,hx,rfl⟩:=List.mem_map.1 hi;have h1:=List.length_eq_zero_iff.1 h0;have h2:=List.filter_eq_nil_iff.1 h1 x hx;simpa using h2
   rw [hall,Nat.zero_add];exact hK _ _ hC' hKc
  | succ n ih=>
   intro listed w' hn hs hin hcl hC'
   -- the first of B that isn't listed is ready
   have hfirst:∀p:(Bool × Nat)→Bool,(∀x∈B,p x=true→listed.getD x.2 false=false)→(∃x∈B,p x=true)→(∀x∈B,p x=false→listed.getD x.2 false=true∨True)→True:=fun _ _ _ _=>trivial
   have hpre:∃pre x post,B=pre++x::post∧listed.getD x.2 false=false∧∀y∈pre,listed.getD y.2 false=true:=by
    have:∀L:List (Bool × Nat),0 < (L.filter fun x=>!listed.getD x.2 false).length→∃pre x post,L=pre++x::post∧listed.getD x.2 false=false∧∀y∈pre,listed.getD y.2 false=true:=by
     intro L;induction L with
     | nil=>intro h; simp at h
     | cons z r ihL=>
      intro h;cases hz:listed.getD z.2 false with
      | false=>exact ⟨[],z,r,rfl,hz,by simp⟩
      | true=>
       simp only [List.filter_cons,hz,Bool.not_true,Bool.false_eq_true,if_false] at h;obtain ⟨pre,x,post,e,h1,h2⟩:=ihL h;refine ⟨z::pre,x,post,by simp [e],h1,?_⟩;intro y hy;rcases List.mem_cons.1 hy with rfl | hy
       ·exact hz
       ·exact h2 y hy
    exact this B (by unfold zEj at hn; omega)
   obtain ⟨pre,x,post,hB,hxun,hpl⟩:=hpre;have hxB:x∈B:=by rw [hB]; simp
   obtain ⟨ox,hox⟩:=hex x hxB;have hlt:∀ {j oj},ops[j]?=some oj→j < listed.size:=fun {j oj} hj=>by
    rcases Nat.lt_or_ge j ops.size with h' | h'
    ·omega
    ·simp [Array.getElem?_eq_none h'] at hj
   have hxr:x.2∈Region.ready .any ops listed:=by
    refine mem_ready.2 ⟨zBn (hlt hox) hxun,ox,hox,fun e he hb=>?_⟩;rcases htp pre x post hB ox hox e he hb with h3 | h3
    ·cases h3
    ·obtain ⟨y,hy,hye⟩:=List.mem_map.1 h3
     rw [←hye]; exact hpl y hy
   -- one that is ready and of B: its value
   have hval:∀j oj y,ops[j]?=some oj→y∈B→y.2=j→listed.getD j false=false→(∀e∈oj.after,Region.binds .any e=true→listed.getD e.on false=true)→
     Y2 P ops C y.1 oj (vals j) (xD ops vals (fun i=>listed.getD i false) (B.map (·.2)) a0):=by
    intro j oj y hj hy hyj hun hrd;subst hyj;refine (hY y hy oj hj).agr (fun cs b=>hsel _ _ cs b hj) ?_;refine zIw _ vals _ _ _ (Agr.refl _ _) ?_;intro k hk hne t hkt;obtain ⟨z,hz,rfl⟩:=List.mem_map.1 hk;obtain ⟨oz,hoz⟩:=hex z hz;have hzun:listed.getD z.2 false=false:=by simpa using hne
    by_cases hzy:z.2=y.2
    ·rw [hzy,uE,hj] at hkt
     exact (zBo hself hy hj).1 t (by simpa using hkt)
    ·have hno:zAo oj z.2=false:=by
      rw [←Bool.not_eq_true];intro he;obtain ⟨e,hee,h2⟩:=List.any_eq_true.1 he;simp only [Bool.and_eq_true,beq_iff_eq] at h2
      have:=hrd e (Array.mem_toList_iff.1 hee) h2.1
      rw [h2.2,hzun] at this;cases this
     have:=kb hap hz hoz hj (Ne.symm hzy) (.inr (List.mem_map.2 ⟨y,hy,rfl⟩)) hno
     exact this.1 t (by simpa [uE,hoz] using hkt)
   have hnext:∀j oj,ops[j]?=some oj→j∈B.map (·.2)→listed.getD j false=false→(∀e∈oj.after,Region.binds .any e=true→listed.getD e.on false=true)→∀w'',C w''→
     wpAny P .any ops Q (n+fuel) (listed.setIfInBounds j true) ((xD ops vals (fun i=>listed.getD i false) (B.map (·.2)) a0).put oj.dst (vals j)) w'':=by
    intro j oj hj hm hun hrd w'' hC'';have e1:(xD ops vals (fun i=>listed.getD i false) (B.map (·.2)) a0).put oj.dst (vals j)=xD ops vals (fun i=>(listed.setIfInBounds j true).getD i false) (B.map (·.2)) a0:=by
     rw [zUl vals (D:=fun i=>listed.getD i false) (fun i hi=>getD_set_ne false (Ne.symm hi)) hun (uA (hlt hj)) _ _ hnd hD hm];simp [uE,hj]
    rw [e1];refine ih _ w'' ?_ (by simpa using hs) ?_ ?_ hC''
    ·have:=zUn hnd (hlt hj) hun hm; omega
    ·intro k hk
     by_cases e:j=k
     ·exact e ▸ hm
     ·rw [getD_set_ne false e] at hk; exact hin k hk
    ·intro k hk z hz hzp hb
     by_cases e:z.2=j
     ·rw [e]; exact uA (hlt hj)
     ·rw [getD_set_ne false (Ne.symm e)]
      by_cases ek:j=k
      ·subst ek
       obtain ⟨ee,hee,hbd,h3⟩:=hw1 j oj hj z hz hzp hb;have hl:=hrd ee hee hbd;rcases h3 with h3 | h3
       ·rw [←h3]; exact hl
       ·exact hcl ee.on hl z hz hzp h3
      ·rw [getD_set_ne false ek] at hk
       exact hcl k hk z hz hzp hb
   by_cases hq:∃z∈B,z.1=false∧listed.getD z.2 false=false
   ·-- an unflagged one has not come up yet: only B's own operations may
    obtain ⟨z,hz,hzp,hzun⟩:=hq;rw [Nat.succ_add];refine ⟨fun h=>(by rw [h] at hxr; cases hxr),fun j hj=>?_⟩;obtain ⟨hjt,oj,hoj,hrd⟩:=mem_ready.1 hj;obtain ⟨hjun,hjs⟩:=yY hjt;have hjB:j∈B.map (·.2):=by
     refine Classical.byContradiction fun hnot=>?_
     have hb:=hw2 j oj hoj hnot z hz hzp;obtain ⟨ee,hee,hbd,h3⟩:=hw1 j oj hoj z hz hzp hb;have hl:=hrd ee hee hbd;rcases h3 with h3 | h3
     ·rw [h3,hzun] at hl; cases hl
     ·have:=hcl ee.on hl z hz hzp h3
      rw [hzun] at this; cases this
    obtain ⟨y,hy,hyj⟩:=List.mem_map.1 hjB;have hyv:=hval j oj y hoj hy hyj hjun hrd;have hq:YieldsIn P ops C oj (vals j) (xD ops vals (fun i=>listed.getD i false) (B.map (·.2)) a0)∨Yields P ops oj (vals j) (xD ops vals (fun i=>listed.getD i false) (B.map (·.2)) a0):=by
     unfold Y2 at hyv;split at hyv
     ·exact .inr hyv.2
     ·exact .inl hyv
    rcases hq with hq | hq
    ·exact wpOp_of_qOp (K:=fun a'=>a'=(xD ops vals (fun i=>listed.getD i false) (B.map (·.2)) a0).put oj.dst (vals j)) hC' (fun a' w'' hC'' ha=>by subst ha; exact hnext j oj hoj hjB hjun hrd w'' hC'') (hq.qOp hoj rfl)
    ·exact hq.wpOp hoj (hnext j oj hoj hjB hjun hrd w' hC')
   ·-- only flagged ones are left: they may be taken first
    have hxp:x.1=true:=by
     cases hp:x.1 with
     | true=>rfl
     | false=>exact absurd ⟨x,hxB,hp,hxun⟩ hq
    obtain ⟨hjt,ox',hox',hrd⟩:=mem_ready.1 hxr;rw [hox] at hox';cases hox'
    have hyv:=hval x.2 ox x hox hxB rfl hxun hrd;unfold Y2 at hyv;rw [if_pos hxp] at hyv;rw [Nat.succ_add];refine wpAny_first hox (fun j o cs b hj=>hsel j o cs b hj) (fun c a w h=>hQ _ c a _ w h) (n+fuel) listed _ w' ?_ hxr hyv.2 (hnext x.2 ox hox (List.mem_map.2 ⟨x,hxB,rfl⟩) hxun hrd w' hC');intro j oj hoj hjx hjun hno;refine (kb hap hxB hox hoj hjx (.inl hxp) ?_).2 hxp ?_
    ·rw [←Bool.not_eq_true]
     intro he;obtain ⟨e,hee,h2⟩:=List.any_eq_true.1 he;simp only [Bool.and_eq_true,beq_iff_eq] at h2;exact hno e (Array.mem_toList_iff.1 hee) h2.1 h2.2
    ·rw [←Bool.not_eq_true]
     intro he;obtain ⟨e,hee,h2⟩:=List.any_eq_true.1 he;simp only [Bool.and_eq_true,beq_iff_eq] at h2
     have:=hrd e (Array.mem_toList_iff.1 hee) h2.1
     rw [h2.2,(yY hjun).1] at this;cases this
 have hf:∀j,(Array.replicate ops.size false).getD j false=false:=by intro j; by_cases hj:j < ops.size <;> simp [hj]
 have h0:zEj B (Array.replicate ops.size false)=B.length:=by
  unfold zEj;rw [List.filter_eq_self.2];intro x _;rw [hf]; rfl
 have:=main B.length (Array.replicate ops.size false) w h0 (by simp) (fun j hj=>by rw [hf] at hj; cases hj) (fun j hj=>by rw [hf] at hj; cases hj) hC
 have e:xD ops vals (fun i=>(Array.replicate ops.size false).getD i false) (B.map (·.2)) a0=a0:=by
  have:∀l:List Nat,xD ops vals (fun i=>(Array.replicate ops.size false).getD i false) l a0=a0:=by
   intro l;induction l with
   | nil=>rfl
   | cons k l ihl=>rw [xD,hf]; exact ihl
  exact this _
 rw [e] at this;exact this
def xn (o:Oper):Bool:=
 match o.op with
 | .move _ | .assign _ | .pick .. | .nilCheck _ | .binOp .. | .unOp .. | .convert .. | .fieldAddr .. | .field .. | .indexAddr .. | .index .. | .extract .. | .slice .. | .build ..=>true
 | .call { callee:=.builtin b,.. } =>match b with
  | .len | .cap | .max | .min | .real | .imag | .complex=>true
  | _=>false
 | _=>false
theorem xw {P:Program} {s:Sem Value} {w w':World} {n:Next} (h:(do pure (Next.value (←s)):Sem Next).run P w=.ok n w'):∃v,n=.value v:=by
 simp only [Sem.run_bind] at h;cases hr:s.run P w with
 | ok v w1=>rw [hr] at h; simp [Result.andThen] at h; exact ⟨v,h.1.symm⟩
 | halt x w1=>rw [hr] at h; simp [Result.andThen] at h
theorem zBp {α:Type} {P:Program} {x:Sem α} {k:α→Sem Next} (hk:∀a w w' n,(k a).run P w=.ok n w'→∃v,n=.value v) {w w':World} {n:Next} (h:(x >>=k).run P w=.ok n w'):∃v,n=.value v:=by
 simp only [Sem.run_bind] at h;cases hr:x.run P w with
 | ok a w1=>rw [hr] at h; exact hk a w1 w' n (by simpa [Result.andThen] using h)
 | halt x w1=>rw [hr] at h; simp [Result.andThen] at h
theorem zGb {P:Program} {ρ:Operand→Value} {o:Oper} (hp:xn o=true) {w w':World} {n:Next} (h:(execOp ρ o).run P w=.ok n w'):∃v,n=.value v:=by
 obtain ⟨dst,op,type,pos,after,guard⟩:=o;cases op <;> first | (simp [xn] at hp; done) | skip
 case move x=>simp [execOp] at h; exact ⟨_,h.1.symm⟩
 case assign x=>simp [execOp] at h; exact ⟨_,h.1.symm⟩
 case pick c a b=>exact xw (P:=P) (s:=(do pure (if ←asBool (ρ c) then ρ a else ρ b))) (by simpa [execOp] using h)
 case build t parts=>exact xw h
 case nilCheck x=>
  simp only [execOp] at h;split at h
  ·simp [runtimePanic] at h
  ·simp [runtimePanic] at h
  ·simp [runtimePanic] at h
  ·split at h
   ·simp [runtimePanic] at h
   ·refine zBp (fun a w w' n h=>?_) h
    refine zBp (fun b w w' n h=>?_) h;split at h
    ·refine zBp (fun c w w' n h=>?_) h
     simp at h; exact ⟨_,h.1.symm⟩
    ·simp at h; exact ⟨_,h.1.symm⟩
   ·simp at h; exact ⟨_,h.1.symm⟩
  ·simp at h; exact ⟨_,h.1.symm⟩
 case binOp op t x y yt=>exact xw h
 case unOp op t x=>exact xw h
 case convert a b x=>exact xw h
 case slice t x lo hi mx=>exact xw h
 case fieldAddr t x f=>exact xw h
 case field t x f=>exact xw h
 case indexAddr t x i=>exact xw h
 case index t x i=>exact xw h
 case extract t i=>exact xw h
 case call c=>
  obtain ⟨callee,args,ats⟩:=c;cases callee with
  | builtin b=>cases b <;> first | (simp [xn] at hp; done) | exact xw h
  | _=>simp [xn] at hp
def vx (P:Program) (ops:Array Oper) (C:World→Prop) (K:Act→Prop):List (Bool × List Oper)→Act→Prop
 | [],a=>K a
 | (true,l)::r,a=>wpQuiet P ops (fun _=>True) (fun a'=>vx P ops C K r a') l a
 | (false,l)::r,a=>wpQuiet P ops C (fun a'=>vx P ops C K r a') l a
theorem zUo {K:Act→Prop} {pl:Bool} :∀(l:List Oper) (r:List (Bool × Oper)) (a:Act),(pl=true→∀o∈l,xn o=true)→
  wpQuiet P ops (fun w=>pl=true∨C w) (fun a'=>zMk P ops C K r a') l a→zMk P ops C K (l.map (fun o=>(pl,o))++r) a:=by
 intro l;induction l with
 | nil=>intro r a _ h; exact h
 | cons o l ih=>
  intro r a hp h;simp only [wpQuiet] at h;simp only [List.map_cons,List.cons_append,zMk];by_cases hw:Region.wanted o (yielded ops a.tmps)=true
  ·rw [if_pos hw] at h
   obtain ⟨v,h1,h2⟩:=h;refine ⟨v,?_,ih r _ (fun e k hk=>hp e k (by simp [hk])) h2⟩;unfold Y2;cases pl with
   | false=>
    simp only [Bool.false_eq_true,if_false];have hcl:(fun w=>false=true∨C w)=C:=by funext w; simp
    rw [hcl] at h1;exact .inl ⟨hw,h1⟩
   | true=>
    simp only [if_true];have hcl:(fun w=>true=true∨C w)=fun _=>True:=by funext w; simp
    rw [hcl] at h1;refine ⟨.inl ⟨hw,h1⟩,.inl ⟨hw,fun w=>?_⟩⟩;have h3:=h1 w trivial;unfold Oper.quietAt at h3;generalize hr:(execOp a.eval o).run P w=r at h3;cases r with
    | ok n w'=>
     obtain ⟨u,rfl⟩:=zGb (hp rfl o (by simp)) hr;simp only [Oper.quietUpon] at h3;obtain ⟨rfl,rfl⟩:=h3;rfl
    | halt x w'=>simp only [Oper.quietUpon] at h3
  ·rw [if_neg hw] at h
   refine ⟨undef,?_,ih r _ (fun e k hk=>hp e k (by simp [hk])) h⟩;have hw':Region.wanted o (yielded ops a.tmps)=false:=by simpa using hw
   unfold Y2;split
   ·exact ⟨.inr ⟨hw',rfl⟩,.inr ⟨hw',rfl⟩⟩
   ·exact .inr ⟨hw',rfl⟩
theorem zPu {K:Act→Prop} :∀(segs:List (Bool × List Oper)) (a:Act),(∀s∈segs,s.1=true→∀o∈s.2,xn o=true)→vx P ops C K segs a→
  zMk P ops C K (segs.flatMap fun s=>s.2.map fun o=>(s.1,o)) a:=by
 intro segs;induction segs with
 | nil=>intro a _ h; exact h
 | cons s r ih=>
  intro a hp h;obtain ⟨pl,l⟩:=s;simp only [List.flatMap_cons];refine zUo l _ a (hp (pl,l) (by simp)) ?_
  have:∀(l:List Oper) (a:Act) (K1 K2:Act→Prop),(∀a,K1 a→K2 a)→wpQuiet P ops (fun w=>pl=true∨C w) K1 l a→wpQuiet P ops (fun w=>pl=true∨C w) K2 l a:=by
   intro l;induction l with
   | nil=>intro a K1 K2 hk h; exact hk _ h
   | cons o l ihl=>
    intro a K1 K2 hk h;simp only [wpQuiet] at *;split
    ·rename_i hw; rw [if_pos hw] at h; exact Oper.quiet_mono (fun a' ha=>ihl a' K1 K2 hk ha) h
    ·rename_i hw; rw [if_neg hw] at h; exact ihl _ K1 K2 hk h
  refine this l a _ _ (fun a' ha=>ih a' (fun s hs=>hp s (by simp [hs])) ha) ?_;cases pl with
  | true=>
   have hcl:(fun w=>true=true∨C w)=fun _=>True:=by funext w; simp
   rw [hcl]; exact h
  | false=>
   have hcl:(fun w=>false=true∨C w)=C:=by funext w; simp
   rw [hcl]; exact h
def flat (segs:List (Bool × List Nat)):List (Bool × Nat):=segs.flatMap fun s=>s.2.map fun i=>(s.1,i)
def opsOf (ops:Array Oper) (segs:List (Bool × List Nat)):List (Bool × List Oper):=segs.map fun s=>(s.1,s.2.map fun i=>(ops[i]?).getD default)
theorem flat_ops (ops:Array Oper):∀segs:List (Bool × List Nat),(flat segs).map (fun x=>(x.1,(ops[x.2]?).getD default))=(opsOf ops segs).flatMap fun s=>s.2.map fun o=>(s.1,o):=by
 intro segs;induction segs with
 | nil=>rfl
 | cons s r ih=>
  simp only [flat,opsOf,List.flatMap_cons,List.map_append,List.map_cons,List.map_map] at *;rw [ih];rfl
def okSegs (ops:Array Oper) (segs:List (Bool × List Nat)) (m:Array Nat):Bool:=
 okB ops (flat segs) m && (opsOf ops segs).all fun s=>!s.1 || s.2.all xn
theorem wp_region_part {l:List Oper} {id:Nat} {a:Act} {w:World} (hm:P.follows .mixedOrders=true) (segs:List (Bool × List Nat)) (m:Array Nat) (fuel:Nat) (final:Array Bool)
  (hok:okSegs l.toArray segs m=true) (hfin:uj (Array.replicate l.toArray.size false) ((flat segs).map (·.2))=final) (hlen:(flat segs).length+fuel=l.toArray.size)
  (hC:C w.drew) (hQ:∀d c a v w,Q (.panic c) (Act.put a d v) w→Q (.panic c) a w)
  (h:vx P l.toArray C (fun a'=>∀w',C w'→wpAny P .any l.toArray Q fuel final a' w') (opsOf l.toArray segs) a):(Code.region id l.toArray true).wp P Q a w:=by
 unfold okSegs at hok;simp only [Bool.and_eq_true] at hok;refine wp_region_any hm ?_;have key:=fun hx=>zDm hok.1 (a0:=a) (C:=C) (K:=fun a'=>∀w',C w'→wpAny P .any l.toArray Q fuel final a' w') hQ hfin (fun a' w' hw' hk=>hk w' hw') hC hx
 rw [hlen] at key;refine key ?_;have h2:=zPu _ _ (fun s hs hp=>by
  have:=List.all_eq_true.1 hok.2 s hs
  rw [hp] at this;exact List.all_eq_true.1 (by simpa using this)) h
 rw [flat_ops];exact h2
/-! Loads that stand beside operations that make or change memory elsewhere: S is kept by whatever may come ahead of one of them. -/
variable {S:World→Prop} {need:Nat→Bool}
def wpG (P:Program) (ops:Array Oper) (Q:Exit→Act→World→Prop) (S:World→Prop) (need:Nat→Bool):Nat→Array Bool→Act→World→Prop
 | 0,listed,a,w=>Region.ready .any ops listed=[]∧Q .normal a w
 | fuel+1,listed,a,w=>(Region.ready .any ops listed=[]→Q .normal a w)∧
  ∀i∈Region.ready .any ops listed,wpOp P ops Q i (fun a' w'=>(need i=true→S w→S w')∧wpG P ops Q S need fuel (listed.setIfInBounds i true) a' w') a w
theorem wpAny_of_G:∀(fuel:Nat) (listed:Array Bool) (a:Act) (w:World),wpG P ops Q S need fuel listed a w→wpAny P .any ops Q fuel listed a w
 | 0,_,_,_,h=>h
 | fuel+1,_,_,_,h=>⟨h.1,fun i hi=>wpOp_mono (fun a' w' h'=>wpAny_of_G fuel _ a' w' h'.2) (h.2 i hi)⟩
theorem zUp {i:Nat} {oi:Oper} {v:Value} (hi:ops[i]?=some oi) (hsel:∀(j:Nat) (o:Oper) cs b,ops[j]?=some o→o.op≠.select cs b)
  (hQ:∀c a w,Q (.panic c) (a.put oi.dst v) w→Q (.panic c) a w) {bit:Nat→Bool}
  (hbit:∀j oj,ops[j]?=some oj→bit j=true→∃e∈oj.after,Region.binds .any e=true∧(e.on=i∨bit e.on=true))
  (hneed:∀j oj,ops[j]?=some oj→bit j=false→need j=true):
  ∀(fuel:Nat) (listed:Array Bool) (a:Act) (w:World),
   (∀j oj,ops[j]?=some oj→j≠i→listed.getD j true=false→(∀e∈oj.after,Region.binds .any e=true→e.on≠i)→oi.apart ops oj=true)→
   (∀j,listed.getD j false=true→bit j=false)→
   i∈Region.ready .any ops listed→S w→YieldsIf P ops S oi v a→
   wpG P ops Q S need fuel (listed.setIfInBounds i true) (a.put oi.dst v) w→wpG P ops Q S need (fuel+1) listed a w:=by
 intro fuel;induction fuel with
 | zero=>
  intro listed a w _ _ hr hS hy H;refine ⟨fun h=>(by rw [h] at hr; cases hr),fun j hj=>?_⟩;by_cases hji:j=i
  ·subst hji; exact hy.wpOp hi hS ⟨fun _ _=>hS,H⟩
  ·have:=ready_mono (i:=i) hj hji
   rw [H.1] at this;cases this
 | succ fuel ih=>
  intro listed a w hfree hcl hr hS hy H;refine ⟨fun h=>(by rw [h] at hr; cases hr),fun j hj=>?_⟩;by_cases hji:j=i
  ·subst hji; exact hy.wpOp hi hS ⟨fun _ _=>hS,H⟩
  ·have h1:=H.2 j (ready_mono hj hji)
   obtain ⟨hjun,oj,hoj,hall⟩:=mem_ready.1 hj;have hiun:=(yY (mem_ready.1 hr).1).1;have hnot:∀e∈oj.after,Region.binds .any e=true→e.on≠i:=fun e he hb heq=>by
    have:=hall e he hb
    rw [heq,hiun] at this;cases this
   have hjb:bit j=false:=by
    rw [←Bool.not_eq_true];intro hb;obtain ⟨e,he,hbd,h3⟩:=hbit j oj hoj hb;rcases h3 with h3 | h3
    ·exact hnot e he hbd h3
    ·rw [hcl _ (hall e he hbd)] at h3; cases h3
   have h2:=wpOp_putIf hoj (hfree j oj hoj hji hjun hnot) (fun cs b=>hsel i oi cs b hi) (fun cs b=>hsel j oj cs b hoj) hQ hy h1;refine wpOp_mono (fun a' w' h3=>?_) h2;obtain ⟨hy',hS',hrest⟩:=h3;have hSw:=hS' (hneed j oj hoj hjb) hS;refine ⟨fun _ _=>hSw,ih (listed.setIfInBounds j true) a' w' ?_ ?_ (ready_mono hr (Ne.symm hji)) hSw hy' ?_⟩
   ·intro k ok hk hki hun hno
    refine hfree k ok hk hki ?_ hno;by_cases hjk:j=k
    ·subst hjk; exact hjun
    ·rw [getD_set_ne true hjk] at hun; exact hun
   ·intro k hk
    by_cases hjk:j=k
    ·subst hjk; exact hjb
    ·rw [getD_set_ne false hjk] at hk; exact hcl k hk
   ·rw [Array.setIfInBounds_comm _ _ hji]
    exact hrest
theorem zPv {i:Nat} {oi:Oper} {v:Value} (hi:ops[i]?=some oi) (hsel:∀(j:Nat) (o:Oper) cs b,ops[j]?=some o→o.op≠.select cs b)
  (hQ:∀c a w,Q (.panic c) (a.put oi.dst v) w→Q (.panic c) a w):
  ∀(fuel:Nat) (listed:Array Bool) (a:Act) (w:World),
   (∀j oj,ops[j]?=some oj→j≠i→listed.getD j true=false→(∀e∈oj.after,Region.binds .any e=true→e.on≠i)→oi.apart ops oj=true)→
   i∈Region.ready .any ops listed→Yields P ops oi v a→
   wpG P ops Q S need fuel (listed.setIfInBounds i true) (a.put oi.dst v) w→wpG P ops Q S need (fuel+1) listed a w:=by
 intro fuel;induction fuel with
 | zero=>
  intro listed a w _ hr hy H;refine ⟨fun h=>(by rw [h] at hr; cases hr),fun j hj=>?_⟩;by_cases hji:j=i
  ·subst hji; exact hy.wpOp hi ⟨fun _ h=>h,H⟩
  ·have:=ready_mono (i:=i) hj hji
   rw [H.1] at this;cases this
 | succ fuel ih=>
  intro listed a w hfree hr hy H;refine ⟨fun h=>(by rw [h] at hr; cases hr),fun j hj=>?_⟩;by_cases hji:j=i
  ·subst hji; exact hy.wpOp hi ⟨fun _ h=>h,H⟩
  ·have h1:=H.2 j (ready_mono hj hji)
   obtain ⟨hjun,oj,hoj,hall⟩:=mem_ready.1 hj;have hiun:=(yY (mem_ready.1 hr).1).1;have hnot:∀e∈oj.after,Region.binds .any e=true→e.on≠i:=fun e he hb heq=>by
    have:=hall e he hb
    rw [heq,hiun] at this;cases this
   have h2:=wpOp_putIf (S:=fun _=>True) hoj (hfree j oj hoj hji hjun hnot) (fun cs b=>hsel i oi cs b hi) (fun cs b=>hsel j oj cs b hoj) hQ hy.yieldsIf h1;refine wpOp_mono (fun a' w' h3=>?_) h2;obtain ⟨hy',hS',hrest⟩:=h3;have hyy:Yields P ops oi v a':=hy'.imp (fun ⟨h,k⟩=>⟨h,fun w=>k w trivial⟩) id;refine ⟨hS',ih (listed.setIfInBounds j true) a' w' ?_ (ready_mono hr (Ne.symm hji)) hyy ?_⟩
   ·intro k ok hk hki hun hno
    refine hfree k ok hk hki ?_ hno;by_cases hjk:j=k
    ·subst hjk; exact hjun
    ·rw [getD_set_ne true hjk] at hun; exact hun
   ·rw [Array.setIfInBounds_comm _ _ hji]
    exact hrest
def kd (o:Oper):Bool:=xn o || (match o.op with | .load ..=>true | _=>false)
theorem zPw {P:Program} {ρ:Operand→Value} {o:Oper} (hp:kd o=true) {w w':World} {n:Next} (h:(execOp ρ o).run P w=.ok n w'):∃v,n=.value v:=by
 unfold kd at hp;simp only [Bool.or_eq_true] at hp;rcases hp with hp | hp
 ·exact zGb hp h
 ·obtain ⟨dst,op,type,pos,after,guard⟩:=o
  cases op <;> first | (simp at hp; done) | exact xw h
def vy (ops:Array Oper) (m:Array Nat) (needs:List Nat):Array Bool→List Nat→Bool
 | _,[]=>true
 | listed,i::r=>(match ops[i]? with
   | none=>false
   | some o=>kd o && (xn o || (List.range ops.size).all fun j=>match ops[j]? with
    | none=>true
    | some oj=>(if (m.getD j 0).testBit i then oj.after.any fun e=>Region.binds .any e && (e.on == i || (m.getD e.on 0).testBit i) else needs.contains j) && (!listed.getD j false || !(m.getD j 0).testBit i))) &&
  (Region.ready .any ops listed).contains i && Region.free .any ops listed i && vy ops m needs (listed.setIfInBounds i true) r
structure InS (S:World→Prop) where
 w:World
 h:S w
theorem inS_eq (S:World→Prop):(fun w'=>∃x:InS S,w'=x.w)=S:=by
 funext w'
 exact propext ⟨fun ⟨x,h⟩=>h ▸ x.h,fun h=>⟨⟨w',h⟩,rfl⟩⟩
def uQ (P:Program) (ops:Array Oper) (S:World→Prop) (K:Act→Prop):List (Bool × List Oper)→Act→Prop
 | [],a=>K a
 | (true,l)::r,a=>wpQuiet P ops (fun _=>True) (fun a'=>uQ P ops S K r a') l a
 | (false,l)::r,a=>wpQuiet P ops (fun w'=>∃x:InS S,w'=x.w) (fun a'=>uQ P ops S K r a') l a
theorem zFh {o:Oper} {v:Value} {a:Act} {C:World→Prop} (hk:kd o=true) (hw:Region.wanted o (yielded ops a.tmps)=true) (hv:∀w,C w→o.quietAt P a C w v):YieldsIf P ops C o v a:=
 .inl ⟨hw,fun w' hS'=>by
  have h6:=hv w' hS';unfold Oper.quietAt at h6;generalize hrr:(execOp a.eval o).run P w'=rr at h6;cases rr with
  | ok n w1=>
   obtain ⟨u,rfl⟩:=zPw hk hrr;simp only [Oper.quietUpon] at h6;obtain ⟨rfl,rfl⟩:=h6;rfl
  | halt x w1=>simp only [Oper.quietUpon] at h6⟩
theorem zCc {m:Array Nat} {needs:List Nat} {listed:Array Bool} {i:Nat} {r:List Nat} (h:vy ops m needs listed (i::r)=true):
  ∃o,ops[i]?=some o∧kd o=true∧(xn o=true∨∀j oj,ops[j]?=some oj→(if (m.getD j 0).testBit i then oj.after.any fun e=>Region.binds .any e && (e.on == i || (m.getD e.on 0).testBit i) else needs.contains j)=true∧(!listed.getD j false || !(m.getD j 0).testBit i)=true)∧
   i∈Region.ready .any ops listed∧Region.free .any ops listed i=true∧vy ops m needs (listed.setIfInBounds i true) r=true:=by
 simp only [vy,Bool.and_eq_true] at h;obtain ⟨⟨⟨h1,h2⟩,h3⟩,h5⟩:=h;cases ho:ops[i]? with
 | none=>simp [ho] at h1
 | some o=>
  simp only [ho,Bool.and_eq_true,Bool.or_eq_true] at h1;refine ⟨o,rfl,h1.1,?_,by simpa using h2,h3,h5⟩;rcases h1.2 with h4 | h4
  ·exact .inl h4
  ·refine .inr fun j oj hj=>?_
   have hlt:j∈List.range ops.size:=by
    rcases Nat.lt_or_ge j ops.size with h' | h'
    ·exact List.mem_range.2 h'
    ·simp [Array.getElem?_eq_none h'] at hj
   have:=List.all_eq_true.1 h4 j hlt
   simpa only [hj,Bool.and_eq_true] using this
theorem zKt {m:Array Nat} {needs:List Nat} (hns:Region.noSelect ops=true) (hQ:∀d c a v w,Q (.panic c) (Act.put a d v) w→Q (.panic c) a w) {w:World} (hS:S w)
  {listed:Array Bool} {i:Nat} {r:List Nat} (hok:vy ops m needs listed (i::r)=true) (hsz:listed.size=ops.size) {o:Oper} (ho:ops[i]?=some o) {a:Act} {v:Value} {n:Nat}
  (hy:Yields P ops o v a∨(xn o=false∧YieldsIf P ops S o v a)) (h:wpG P ops Q S (fun j=>needs.contains j) n (listed.setIfInBounds i true) (a.put o.dst v) w):
  wpG P ops Q S (fun j=>needs.contains j) (n+1) listed a w:=by
 have hsel:=Region.noSelect_spec hns;obtain ⟨o',ho',hck,hpl,hr,hfr,-⟩:=zCc hok;rw [ho] at ho';cases ho'
 rcases hy with hy | ⟨hnp,hy⟩
 ·exact zPv ho (fun j o cs b hj=>hsel j o cs b hj) (fun c a w h=>hQ _ c a _ w h) n listed a w (fun j oj hj hne hun hno=>Region.free_spec ho hfr j oj hj hne hun hno) hr hy h
 ·have h4':=hpl.resolve_left (by rw [hnp]; simp)
  refine zUp (bit:=fun j=>(m.getD j 0).testBit i) ho (fun j o cs b hj=>hsel j o cs b hj) (fun c a w h=>hQ _ c a _ w h) ?_ ?_ n listed a w (fun j oj hj hne hun hno=>Region.free_spec ho hfr j oj hj hne hun hno) ?_ hr hS hy h
  ·intro j oj hj hb
   have:=(h4' j oj hj).1
   rw [if_pos hb] at this;obtain ⟨k,hk,h7⟩:=Array.any_eq_true.1 this;simp only [Bool.and_eq_true,Bool.or_eq_true,beq_iff_eq] at h7;exact ⟨oj.after[k],Array.getElem_mem hk,h7.1,h7.2⟩
  ·intro j oj hj hb
   have:=(h4' j oj hj).1
   rw [if_neg (by simpa using hb)] at this;exact this
  ·intro j hj
   have hjlt:j < ops.size:=by
    rcases Nat.lt_or_ge j listed.size with h' | h'
    ·omega
    ·simp [Array.getElem?_eq_none h'] at hj
   have:=(h4' j ops[j] (Array.getElem?_eq_getElem hjlt)).2
   rw [hj] at this;simpa using this
theorem calm_seg {m:Array Nat} {needs:List Nat} (hns:Region.noSelect ops=true) (hQ:∀d c a v w,Q (.panic c) (Act.put a d v) w→Q (.panic c) a w) {n:Nat} {w:World} (hS:S w) (pl:Bool) {K:Array Bool→Act→Prop} :
  ∀(B r:List Nat) (listed:Array Bool) (a:Act),vy ops m needs listed (B++r)=true→listed.size=ops.size→(∀i∈B,((ops[i]?).map xn).getD false=pl)→
   (∀listed' a',listed'=uj listed B→vy ops m needs listed' r=true→listed'.size=ops.size→K listed' a'→wpG P ops Q S (fun j=>needs.contains j) n listed' a' w)→
   wpQuiet P ops (if pl then fun _=>True else S) (fun a'=>K (uj listed B) a') (B.map fun i=>(ops[i]?).getD default) a→wpG P ops Q S (fun j=>needs.contains j) (B.length+n) listed a w:=by
 intro B;induction B with
 | nil=>intro r listed a hok hsz _ hK h; simp only [List.length_nil,Nat.zero_add]; exact hK listed a rfl hok hsz (by simpa [wpQuiet,uj] using h)
 | cons i B ih=>
  intro r listed a hok hsz hpl hK h;obtain ⟨o,ho,hck,-,-,-,hok'⟩:=zCc hok;have hp:xn o=pl:=by simpa [ho] using hpl i (by simp)
  simp only [List.map_cons,ho,Option.getD_some,wpQuiet] at h;have hyk:∃v,(Yields P ops o v a∨(xn o=false∧YieldsIf P ops S o v a))∧wpQuiet P ops (if pl then fun _=>True else S) (fun a'=>K (uj listed (i::B)) a') (B.map fun i=>(ops[i]?).getD default) (a.put o.dst v):=by
   by_cases hw:Region.wanted o (yielded ops a.tmps)=true
   ·rw [if_pos hw] at h
    obtain ⟨v,hv,hk⟩:=h;refine ⟨v,?_,hk⟩;have hy:=zFh hck hw hv;cases pl with
    | true=>exact .inl (hy.imp (fun ⟨h,k⟩=>⟨h,fun w=>k w trivial⟩) id)
    | false=>exact .inr ⟨hp,hy⟩
   ·rw [if_neg hw] at h
    exact ⟨undef,.inl (.inr ⟨by simpa using hw,rfl⟩),h⟩
  obtain ⟨v,hy,hk⟩:=hyk;rw [List.length_cons,Nat.add_right_comm];exact zKt hns hQ hS hok hsz ho hy (ih r (listed.setIfInBounds i true) (a.put o.dst v) hok' (by simpa using hsz) (fun j hj=>hpl j (by simp [hj])) hK hk)
def uF (segs:List (Bool × List Nat)):List Nat:=segs.flatMap (·.2)
theorem wpG_calm {m:Array Nat} {needs:List Nat} (hns:Region.noSelect ops=true) (hQ:∀d c a v w,Q (.panic c) (Act.put a d v) w→Q (.panic c) a w) {fuel:Nat} {w:World} (hS:S w):
  ∀(segs:List (Bool × List Nat)) (listed:Array Bool) (a:Act),vy ops m needs listed (uF segs)=true→listed.size=ops.size→(segs.all fun s=>s.2.all fun i=>((ops[i]?).map xn).getD false == s.1)=true→
   uQ P ops S (fun a'=>wpG P ops Q S (fun j=>needs.contains j) fuel (uj listed (uF segs)) a' w) (opsOf ops segs) a→
   wpG P ops Q S (fun j=>needs.contains j) ((uF segs).length+fuel) listed a w:=by
 intro segs;induction segs with
 | nil=>intro listed a _ _ _ h; simpa [uQ,uj,uF,opsOf] using h
 | cons s r ih=>
  intro listed a hok hsz hpl h;obtain ⟨pl,B⟩:=s;simp only [List.all_cons,Bool.and_eq_true] at hpl;have hlen:(uF ((pl,B)::r)).length+fuel=B.length+((uF r).length+fuel):=by simp [uF,Nat.add_assoc]
  rw [hlen];have hmark:∀(x y:List Nat) (l:Array Bool),uj l (x++y)=uj (uj l x) y:=fun x y l=>by simp [uj,List.foldl_append]
  refine calm_seg (K:=fun L a'=>uQ P ops S (fun a'=>wpG P ops Q S (fun j=>needs.contains j) fuel (uj L (uF r)) a' w) (opsOf ops r) a') hns hQ hS pl B (uF r) listed a (by simpa [uF] using hok) hsz
   (fun i hi=>by simpa using List.all_eq_true.1 hpl.1 i hi) (fun L a' _ hokr hs hk=>ih L a' hokr hs hpl.2 hk) ?_
  have e:uF ((pl,B)::r)=B++uF r:=by simp [uF]
  rw [e,hmark] at h;cases pl with
  | true=>exact h
  | false=>
   have h':wpQuiet P ops (fun w'=>∃x:InS S,w'=x.w) (fun a'=>uQ P ops S (fun a'=>wpG P ops Q S (fun j=>needs.contains j) fuel (uj (uj listed B) (uF r)) a' w) (opsOf ops r) a') (B.map fun i=>(ops[i]?).getD default) a:=h;rw [inS_eq] at h';exact h'
theorem wp_region_calm {l:List Oper} {id:Nat} {a:Act} {w:World} (hm:P.follows .mixedOrders=true) (segs:List (Bool × List Nat)) (m:Array Nat) (needs:List Nat) (fuel:Nat) (final:Array Bool)
  (hok:(Region.noSelect l.toArray && vy l.toArray m needs (Array.replicate l.toArray.size false) (uF segs) && segs.all fun s=>s.2.all fun i=>((l.toArray[i]?).map xn).getD false == s.1)=true)
  (hfin:uj (Array.replicate l.toArray.size false) (uF segs)=final) (hlen:(uF segs).length+fuel=l.toArray.size)
  (S:World→Prop) (hS:S w.drew) (hQ:∀d c a v w,Q (.panic c) (Act.put a d v) w→Q (.panic c) a w)
  (h:uQ P l.toArray S (fun a'=>wpG P l.toArray Q S (fun j=>needs.contains j) fuel final a' w.drew) (opsOf l.toArray segs) a):(Code.region id l.toArray true).wp P Q a w:=by
 simp only [Bool.and_eq_true] at hok;refine wp_region_any hm ?_;have key:=fun hx=>wpAny_of_G _ _ _ _ (wpG_calm (P:=P) (Q:=Q) (S:=S) (m:=m) (needs:=needs) hok.1.1 hQ (fuel:=fuel) (w:=w.drew) hS segs (Array.replicate l.toArray.size false) a hok.1.2 (by simp) hok.2 hx)
 rw [hlen] at key;refine key ?_;rw [hfin];exact h
theorem wpG_one {fuel:Nat} {listed:Array Bool} {a:Act} {w:World} (i:Nat) {o:Oper} (ho:ops[i]?=some o) (hr:Region.ready .any ops listed=[i])
  (h:wpList P ops (Exit.then (fun a' w'=>(need i=true→S w→S w')∧wpG P ops Q S need fuel (listed.setIfInBounds i true) a' w') Q) [o] a w):wpG P ops Q S need (fuel+1) listed a w:=by
 refine ⟨fun e=>(by rw [hr] at e; cases e),fun j hj=>?_⟩;rw [hr] at hj;obtain rfl:j=i:=by simpa using hj
 unfold wpOp;simp only [ho];simp only [wpList] at h;split
 ·rename_i hw
  rw [if_pos hw] at h;rcases h with h | ⟨h1,a1,w1,h2⟩
  ·refine .inl ?_
   unfold Oper.wp at *;generalize (execOp a.eval o).run P w=r at *;cases r with
   | ok n w'=>cases n <;> simp only [Oper.upon] at h ⊢ <;> first | exact h | exact Calls.mono h (fun e w'' he=>by cases e <;> first | exact he | (obtain ⟨a2,w2,h3⟩:=he; exact ⟨a2,w2,h3⟩)) | exact Rows.mono h (fun _ _ he=>he)
   | halt x w'=>cases x <;> simp only [Oper.upon] at h ⊢ <;> exact h
  ·exact .inr ⟨h1,a1,w1,h2⟩
 ·rename_i hw
  rw [if_neg hw] at h;exact h
theorem wpG_all {fuel:Nat} {listed:Array Bool} {a:Act} {w:World} (rs:List Nat) (hr:Region.ready .any ops listed=rs) (hne:rs≠[])
  (h:∀i∈rs,wpG P ops Q S need (fuel+1) listed a w∨∃o,ops[i]?=some o∧wpList P ops (Exit.then (fun a' w'=>(need i=true→S w→S w')∧wpG P ops Q S need fuel (listed.setIfInBounds i true) a' w') Q) [o] a w):wpG P ops Q S need (fuel+1) listed a w:=by
 refine ⟨fun e=>absurd (hr.symm.trans e) hne,fun j hj=>?_⟩;rw [hr] at hj;rcases h j hj with h | ⟨o,ho,h⟩
 ·exact h.2 j (by rw [hr]; exact hj)
 ·unfold wpOp
  simp only [ho];simp only [wpList] at h;split
  ·rename_i hw
   rw [if_pos hw] at h;rcases h with h | ⟨h1,a1,w1,h2⟩
   ·refine .inl ?_
    unfold Oper.wp at *;generalize (execOp a.eval o).run P w=r at *;cases r with
    | ok n w'=>cases n <;> simp only [Oper.upon] at h ⊢ <;> first | exact h | exact Calls.mono h (fun e w'' he=>by cases e <;> first | exact he | (obtain ⟨a2,w2,h3⟩:=he; exact ⟨a2,w2,h3⟩)) | exact Rows.mono h (fun _ _ he=>he)
    | halt x w'=>cases x <;> simp only [Oper.upon] at h ⊢ <;> exact h
   ·exact .inr ⟨h1,a1,w1,h2⟩
  ·rename_i hw
   rw [if_neg hw] at h;exact h
theorem wpG_two {fuel:Nat} {listed:Array Bool} {a:Act} {w:World} (i j:Nat) {oi oj:Oper} (hi:ops[i]?=some oi) (hj:ops[j]?=some oj) (hr:Region.ready .any ops listed=[i,j])
  (h1:wpList P ops (Exit.then (fun a' w'=>(need i=true→S w→S w')∧wpG P ops Q S need fuel (listed.setIfInBounds i true) a' w') Q) [oi] a w)
  (h2:wpList P ops (Exit.then (fun a' w'=>(need j=true→S w→S w')∧wpG P ops Q S need fuel (listed.setIfInBounds j true) a' w') Q) [oj] a w):wpG P ops Q S need (fuel+1) listed a w:=by
 refine wpG_all [i,j] hr (by simp) fun k hk=>?_
 simp only [List.mem_cons,List.not_mem_nil,or_false] at hk;rcases hk with rfl | rfl
 ·exact .inr ⟨oi,hi,h1⟩
 ·exact .inr ⟨oj,hj,h2⟩
theorem wpCalm_t {K:Act→Prop} {l:List Oper} {r:List (Bool × List Oper)} {a:Act} (h:wpQuiet P ops (fun _=>True) (fun a'=>uQ P ops S K r a') l a):uQ P ops S K ((true,l)::r) a:=h
theorem wpCalm_f {K:Act→Prop} {l:List Oper} {r:List (Bool × List Oper)} {a:Act} (h:wpQuiet P ops (fun w'=>∃x:InS S,w'=x.w) (fun a'=>uQ P ops S K r a') l a):uQ P ops S K ((false,l)::r) a:=h
theorem wpCalm_nil {K:Act→Prop} {a:Act} (h:K a):uQ P ops S K [] a:=h
theorem wpSegs_t {K:Act→Prop} {l:List Oper} {r:List (Bool × List Oper)} {a:Act} (h:wpQuiet P ops (fun _=>True) (fun a'=>vx P ops C K r a') l a):vx P ops C K ((true,l)::r) a:=h
theorem wpSegs_f {K:Act→Prop} {l:List Oper} {r:List (Bool × List Oper)} {a:Act} (h:wpQuiet P ops C (fun a'=>vx P ops C K r a') l a):vx P ops C K ((false,l)::r) a:=h
theorem wpSegs_nil {K:Act→Prop} {a:Act} (h:K a):vx P ops C K [] a:=h
def zSt (ops:Array Oper) (needs:List Nat):Array Bool→List Nat→Bool
 | listed,[]=>(Region.ready .any ops listed).isEmpty
 | listed,i::r=>decide (Region.ready .any ops listed=[i]) && (ops[i]?).isSome && !needs.contains i && zSt ops needs (listed.setIfInBounds i true) r
theorem wpG_run {needs:List Nat} :∀(is:List Nat) (listed:Array Bool) (a:Act) (w:World),zSt ops needs listed is=true→
  wpList P ops Q (is.map fun i=>(ops[i]?).getD default) a w→wpG P ops Q S (fun j=>needs.contains j) is.length listed a w
 | [],listed,a,w,hB,h=>⟨by simpa [zSt] using hB,h⟩
 | i::r,listed,a,w,hB,h=>by
  simp only [zSt,Bool.and_eq_true,decide_eq_true_eq,Bool.not_eq_true'] at hB;obtain ⟨⟨⟨h1,h2⟩,h3⟩,h4⟩:=hB;obtain ⟨o,ho⟩:=Option.isSome_iff_exists.1 h2;refine ⟨fun e=>(by rw [h1] at e; cases e),fun j hj=>?_⟩;rw [h1] at hj;obtain rfl:j=i:=by simpa using hj
  have hw:wpOp P ops Q j (wpList P ops Q (r.map fun i=>(ops[i]?).getD default)) a w:=by
   unfold wpOp; simp only [ho]
   simpa only [List.map_cons,ho,Option.getD_some,wpList] using h
  exact wpOp_mono (fun a' w' h'=>⟨fun e _=>absurd (h3.symm.trans e) (by simp),wpG_run r _ a' w' h4 h'⟩) hw
end
end Go.Lcl
