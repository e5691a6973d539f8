/- A part of the proof that what the machine is told keeps its bounds. -/
import Derived.Test.YtfdhofabgdkkkaaGreatDoorJ19
set_option maxHeartbeats 128000000
set_option maxRecDepth 100000
namespace Go.Proofs.YtfdhofabgdkkkaaGreatDoor
open Lib renaming hid→zz
open Go.RowKit Go.Fm Go.BigFrame Go.Shelf Go.Maps
set_option linter.unusedVariables false
set_option linter.unusedSimpArgs false
section
variable {K:Type} [DecidableEq K] {q:KK K} {ops:Array Oper} {rest:List Oper} {o:Oper} {a:Act} {Q:Exit→Act→World→Prop}
end
section
variable {w w':World} {S:Nat→Prop}
def vG (L:List (zY × zR)) (p:zY) (d:zR):List (zY × zR):=L.map fun x=>if x.1=p then (p,d) else x
theorem zAs {p:zY} {d d0:zR} {L:List (zY × zR)} (h:zt L p=some d0) (i:zY):zt (vG L p d) i=if i=p then some d else zt L i:=by
 unfold zt vG at *
 induction L with
 | nil=>simp at h
 | cons z r ih=>
  by_cases h1:z.1=p
  ·by_cases e:i=p
   ·subst e; simp [h1]
   ·rw [List.map_cons,if_pos h1,if_neg e,List.find?_cons_of_neg (by simp; exact fun h=>e h.symm),List.find?_cons_of_neg (by simp [h1]; exact fun h=>e h.symm)]
    clear ih h;congr 1
    induction r with
    | nil=>rfl
    | cons u r ih=>
     by_cases h2:u.1=p
     ·rw [List.map_cons,if_pos h2,List.find?_cons_of_neg (by simp; exact fun h=>e h.symm),List.find?_cons_of_neg (by simp [h2]; exact fun h=>e h.symm),ih]
     ·rw [List.map_cons,if_neg h2]
      by_cases h3:u.1=i
      ·simp [h3]
      ·rw [List.find?_cons_of_neg (by simpa using h3),List.find?_cons_of_neg (by simpa using h3),ih]
  ·rw [List.find?_cons_of_neg (by simpa using h1)] at h
   rw [List.map_cons,if_neg h1];by_cases h2:z.1=i
   ·rw [if_neg (by rw [←h2]; exact h1)]; simp [h2]
   ·rw [List.find?_cons_of_neg (by simpa using h2),List.find?_cons_of_neg (by simpa using h2),ih h]
theorem zFs {α β:Type} [DecidableEq α] {L:List (α × β)} (hn:(L.map (·.1)).Nodup) {x y:α × β} (hx:x∈L) (hy:y∈L) (h:x.1=y.1):x=y:=by
 obtain ⟨i,hi⟩:=List.mem_iff_getElem?.1 hx;obtain ⟨j,hj⟩:=List.mem_iff_getElem?.1 hy;by_cases hij:i=j
 ·subst hij; rw [hi] at hj; exact Option.some.inj hj
 ·exfalso
  have a1:(L.map (·.1))[i]?=some x.1:=by rw [List.getElem?_map,hi]; rfl
  have a2:(L.map (·.1))[j]?=some x.1:=by rw [List.getElem?_map,hj,h]; rfl
  obtain ⟨l1,e1⟩:=List.getElem?_eq_some_iff.1 a1;obtain ⟨l2,e2⟩:=List.getElem?_eq_some_iff.1 a2;exact hij ((List.getElem_inj hn).1 (e1.trans e2.symm))
theorem zW.keys {m:zG} (h:zW w m):(m.L.map (·.1)).Nodup:=by
 have:=h.map.1.nodup
 unfold jU at this;rw [List.map_map] at this;exact this
theorem zW.set {m:zG} (h:zW w m) {p:zY} {d d':zR} (hm:(p,d)∈m.L) (hd:jT w' d') (hx:d'.xb=d.xb) (hT:∀i,d'.T i→d.T i∨w.heap.size≤i) (hf:Fr d.T w w'):zW w' { m with L:=vG m.L p d' } :=by
 have hkeys:=h.keys;have hne:∀x∈m.L,x.1≠p→∀i,x.2.T i→¬d.T i:=by
  intro x hx1 hp i hi hdi;obtain ⟨a,ha⟩:=List.mem_iff_getElem?.1 hx1;obtain ⟨b,hb⟩:=List.mem_iff_getElem?.1 hm;have hP:=List.pairwise_iff_getElem.1 h.dis;obtain ⟨la,ea⟩:=List.getElem?_eq_some_iff.1 ha;obtain ⟨lb,eb⟩:=List.getElem?_eq_some_iff.1 hb;rcases Nat.lt_trichotomy a b with hab | hab | hab
  ·have:=hP a b la lb hab i
   rw [ea,eb] at this;exact this hi hdi
  ·subst hab; rw [ha] at hb; exact hp (by rw [Option.some.inj hb])
  ·have:=hP b a lb la hab i
   rw [ea,eb] at this;exact this hdi hi
 have hpr:jU (vG m.L p d')=jU m.L:=by
  unfold jU vG;rw [List.map_map];refine List.map_congr_left fun x hx1=>?_
  simp only [Function.comp];split
  ·rename_i e
   have:x=(p,d):=zFs hkeys hx1 hm e
   subst this;simp [hx]
  ·rfl
 obtain ⟨lowB,lowT⟩:=h.low;have hB:∀i,m.B i→¬d.T i:=fun i hi hd=>h.off _ hm i hd hi
 refine ⟨(hf.block _ (zA h.b) (hB _ (.inl rfl))).trans h.b,h.top.fr hf (hB _ (.inr (.inl rfl))) (hB _ (.inr (.inr (.inl rfl)))),by rw [hpr]; exact h.map.fr hf (hB _ (.inr (.inr (.inr rfl)))),h.n1,h.pos,?_,?_,?_,h.ids,h.tn,h.nx⟩
 ·intro x hx1
  obtain ⟨y,hy,rfl⟩:=List.mem_map.1 hx1;by_cases e:y.1=p
  ·rw [if_pos e]; exact hd
  ·rw [if_neg e]; exact (h.part y hy).fr hf (hne y hy e)
 ·intro x hx1 i hi hb
  obtain ⟨y,hy,rfl⟩:=List.mem_map.1 hx1;by_cases e:y.1=p
  ·rw [if_pos e] at hi
   rcases hT i hi with h1 | h1
   ·exact hB i hb h1
   ·have:=lowB i hb; omega
  ·rw [if_neg e] at hi; exact h.off y hy i hi hb
 ·unfold vG
  refine List.Pairwise.map _ ?_ (List.Pairwise.imp_of_mem ?_ (h.dis.and (List.pairwise_map.1 hkeys))) (R:=fun x y=>(∀i,x.2.T i→¬y.2.T i)∧x.1≠y.1∧x∈m.L∧y∈m.L)
  ·rintro x y ⟨h1,h2,hx1,hy1⟩ i hi hyi
   by_cases e1:x.1=p
   ·by_cases e2:y.1=p
    ·exact h2 (e1.trans e2.symm)
    ·rw [if_pos e1] at hi; rw [if_neg e2] at hyi
     rcases hT i hi with h3 | h3
     ·exact hne y hy1 e2 i hyi h3
     ·have:=lowT y hy1 i hyi; omega
   ·rw [if_neg e1] at hi
    by_cases e2:y.1=p
    ·rw [if_pos e2] at hyi
     rcases hT i hyi with h3 | h3
     ·exact hne x hx1 e1 i hi h3
     ·have:=lowT x hx1 i hi; omega
    ·rw [if_neg e2] at hyi; exact h1 i hi hyi
  ·intro x y hx1 hy1 ⟨h1,h2⟩
   exact ⟨h1,h2,hx1,hy1⟩
end
section
variable {w w':World} {S:Nat→Prop}
theorem zGv (w:World):(zeroValue 89).run Tryz.prog w=.ok .nilFunc w:=by kernel_rfl
def DoProd (w:World) (m:zG) (p:zY) (d:zR) (b0:Bat) (enc:Bool) (e:Ending) (w':World):Prop:=
 ∃ee cc,e=.returned (xC ee cc)∧(
  ((enc=false∨¬(xO (atB d b0)∧(ye (atB d b0)).size≤50000))∧ee=1∧cc=0∧zW w' m∧Fr (fun _=>False) w w')∨
  (enc=true∧(xO (atB d b0)∧(ye (atB d b0)).size≤50000)∧∃x ag c,zLc d.F (atB d b0)=(x,ag,c)∧(
   ((c≠0∨ag=true)∧ee=c∧(c=0→cc=x)∧zW w' m∧Fr (fun _=>False) w w')∨
   (c=0∧ag=false∧ee=0∧cc=d.en∧∃d':zR,zW w' { m with L:=vG m.L p d' } ∧d'.st=d.st∧d'.en=d.en+b0.span∧d'.bats=d.bats++ [atB d b0]∧d'.F=vh d.F (atB d b0)∧d'.n=d.n+1∧(∀i,d'.T i→d.T i∨w.heap.size≤i)∧Fr d.T w w'))))
theorem zJk {d:zR} {b0:Bat} {e:Ending} (h:kp w d b0 e w'):∃ee cc,e=.returned (xC ee cc):=by
 rcases h with ⟨-,rfl,-⟩ | ⟨-,x,ag,c,-,⟨-,rfl,-⟩ | ⟨-,-,rfl,-⟩⟩
 ·exact ⟨_,_,rfl⟩
 ·by_cases hc:c=0
  ·rw [if_pos hc]; exact ⟨_,_,rfl⟩
  ·rw [if_neg hc]; exact ⟨_,_,rfl⟩
 ·exact ⟨_,_,rfl⟩
theorem kq {a b c d:Int} (h:Ending.returned (xC a b)=.returned (xC c d)):a=c∧b=d:=by
 unfold xC at h;simp at h;exact h
theorem prod_do {w0 w1 w2 w3:World} {m:zG} {p:zY} {d:zR} {b0:Bat} {ee cc:Int} (hm:(p,d)∈m.L) (hM:zW w1 m) (hf:Fr (fun _=>False) w0 w1) (h:kp w1 d b0 (.returned (xC ee cc)) w2)
  (low:m.Low w0.heap.size) (S:Nat→Prop) (hS:∀i,S i→w0.heap.size≤i∧i < w1.heap.size) (hg:Fr S w2 w3):DoProd w0 m p d b0 true (.returned (xC ee cc)) w3:=by
 refine ⟨ee,cc,rfl,?_⟩;have quiet:Fr (fun _=>False) w1 w2→zW w3 m∧Fr (fun _=>False) w0 w3:=fun h1=>
  ⟨(hM.old h1).fr hg (fun i hi hs=>by have:=hS i hs; have:=low.1 i hi; omega) fun x hx i hi hs=>by have:=hS i hs; have:=low.2 x hx i hi; omega,(hf.tr h1).trans hg fun i hs=>.inr (hS i hs).1⟩
 rcases h with ⟨h1,h2,h3⟩ | ⟨h1,x,ag,c,hc,⟨h2,h3,h4⟩ | ⟨rfl,rfl,h3,d',p1,p2,p3,p4,p5,p6,p7,p8,p9⟩⟩
 ·obtain ⟨e1,e2⟩:=kq h2
  exact .inl ⟨.inr h1,e1,e2,quiet h3⟩
 ·refine .inr ⟨rfl,h1,x,ag,c,hc,.inl ⟨h2,?_,?_,quiet h4⟩⟩
  ·by_cases h0:c=0
   ·rw [if_pos h0] at h3; obtain ⟨e1,e2⟩:=kq h3; rw [e1,h0]
   ·rw [if_neg h0] at h3; exact (kq h3).1
  ·intro h0
   rw [if_pos h0] at h3; exact (kq h3).2
 ·obtain ⟨e1,e2⟩:=kq h3
  refine .inr ⟨rfl,h1,x,false,0,hc,.inr ⟨rfl,rfl,e1,e2,d',?_,p3,p4,p5,p6,p7,fun i hi=>(p8 i hi).imp id fun h=>Nat.le_trans hf.size h,?_⟩⟩
  ·have M2:=hM.set hm p1 p2 p8 p9
   refine M2.fr hg (fun i hi hs=>by have:=hS i hs; have:=low.1 i hi; omega) fun y hy i hi hs=>?_
   obtain ⟨z,hz,rfl⟩:=List.mem_map.1 hy;by_cases e:z.1=p
   ·rw [if_pos e] at hi
    rcases p8 i hi with h5 | h5
    ·have:=low.2 _ hm i h5; have:=hS i hs; omega
    ·have:=hS i hs; omega
   ·rw [if_neg e] at hi
    have:=low.2 z hz i hi; have:=hS i hs; omega
  ·exact ((hf.mono (S':=d.T) fun _ h=>h.elim).trans p9 fun i h=>.inl h).trans hg fun i hs=>.inr (hS i hs).1
end
section
variable {K:Type} [DecidableEq K] {q:KK K}
theorem xT.upd (ql:zBd q) {w:World} {b:Nat} {L:List (K × Value)} (hM:xT q w b L) (mt et:TypeId) (ht:Tryz.prog.underlying mt=some (.map q.kt et)) (hn:L.length < 1000000) (k:K) (hk:q.ok k) (u:Value):
  ∃w',(Instr.mapUpdate mt (.map (some b)) (q.kv k) u).run Tryz.prog w=.ok () w'∧xT q w' b (jb L k u)∧w.grownBy w' (some b):=by
 obtain ⟨h0,D,h1,h2,h3⟩:=hM;obtain ⟨w',hrun,r1,r2⟩:=h1.update ql.keyed ht (by rw [h2]; unfold maxLen; omega) (ql.key k hk) (show kZ u=some (.held u,[]) from rfl);exact ⟨w',hrun,xT.put ql h0 h1 h2 h3 hk r1,r2⟩
end
theorem xM.keep {w w':World} {q:Req} {rv kv tv:Value} {K:Nat→Prop} {ft lt:ByteArray} {fok lok:Bool} (h:xM w q rv kv tv K ft lt fok lok) (hf:Fr (fun _=>False) w w'):xM w' q rv kv tv K ft lt fok lok:=
 ⟨h.recs.old hf,fun i hi=>Nat.lt_of_lt_of_le (h.old i hi) hf.size,h.wf,h.steps.old hf,h.fts,fun w2 cb xb h1 h2 h3=>h.fil w2 cb xb (hf.tr h1) (Nat.le_trans hf.size h2) (Nat.le_trans hf.size h3),fun w2 cb xb h1 h2 h3=>h.top w2 cb xb (hf.tr h1) (Nat.le_trans hf.size h2) (Nat.le_trans hf.size h3)⟩
section
variable {w w':World} {S:Nat→Prop}
theorem prod_fr {d:zR} {b0:Bat} {e:Ending} (h:kp w d b0 e w'):Fr d.T w w':=by
 rcases h with ⟨-,-,h⟩ | ⟨-,x,ag,c,-,⟨-,-,h⟩ | ⟨-,-,-,d',-,-,-,-,-,-,-,-,h⟩⟩
 ·exact h.mono fun _ h=>h.elim
 ·exact h.mono fun _ h=>h.elim
 ·exact h
end
section
variable {w w':World} {S:Nat→Prop}
theorem zNp {m:zG} (hM:zW w m) (q:Req) (rv kv tv:Value) (K:Nat→Prop) (ft lt:ByteArray) (fok lok:Bool) (hE:xM w q rv kv tv K ft lt fok lok) (hsz:(yQ ByteArray.empty q ft lt).size≤2000000000000000) (he:zy q ft lt fok lok=true) (hk:q.kind=14) (hn:m.next < 1073741824) (now:Int):
  Calls Tryz.prog 12 #[.pointer (some ⟨m.mb,0,none⟩),.agg (zT q rv kv tv),.int .i64 now] w fun e w'=>e=.returned (xC 0 m.next)∧zW w' { m with next:=m.next+1 } ∧Fr (fun i=>i=m.mb) w w':=by
 have f2:=((Fr.same w).alloc (.cells #[.int .i64 14,.string q.name,.int .i64 q.index,.int .i64 q.count,.int .i64 q.from',.bool q.flag,.int .i64 q.bat.base,.int .i64 q.bat.span,.int .i64 q.bat.prod,.int .i64 q.bat.epoch,.int .i64 q.bat.seq,rv,.int .i64 q.fop,.string q.fnm,.string q.fvl,kv,.string q.group,.int .i64 q.member,.int .i64 q.gen,tv] 41)).alloc (.cells #[.int .i64 0,.int .i64 0,.int .i64 0,.int .i64 0,.int .i64 0,.int .i64 0,.int .i64 0,.slice none 0 0,.slice none 0 0,.slice none 0 0] 31);have s1:(w.alloc (.cells #[.int .i64 14,.string q.name,.int .i64 q.index,.int .i64 q.count,.int .i64 q.from',.bool q.flag,.int .i64 q.bat.base,.int .i64 q.bat.span,.int .i64 q.bat.prod,.int .i64 q.bat.epoch,.int .i64 q.bat.seq,rv,.int .i64 q.fop,.string q.fnm,.string q.fvl,kv,.string q.group,.int .i64 q.member,.int .i64 q.gen,tv] 41)).heap.size=w.heap.size+1:=by simp
 have x1:=zC (w.alloc (.cells #[.int .i64 14,.string q.name,.int .i64 q.index,.int .i64 q.count,.int .i64 q.from',.bool q.flag,.int .i64 q.bat.base,.int .i64 q.bat.span,.int .i64 q.bat.prod,.int .i64 q.bat.epoch,.int .i64 q.bat.seq,rv,.int .i64 q.fop,.string q.fnm,.string q.fvl,kv,.string q.group,.int .i64 q.member,.int .i64 q.gen,tv] 41)) (.cells #[.int .i64 0,.int .i64 0,.int .i64 0,.int .i64 0,.int .i64 0,.int .i64 0,.int .i64 0,.slice none 0 0,.slice none 0 0,.slice none 0 0] 31);rw [s1] at x1;have X1:=zz x1;have xq:=(zF (.cells #[.int .i64 0,.int .i64 0,.int .i64 0,.int .i64 0,.int .i64 0,.int .i64 0,.int .i64 0,.slice none 0 0,.slice none 0 0,.slice none 0 0] 31) (zA (zC w (.cells #[.int .i64 14,.string q.name,.int .i64 q.index,.int .i64 q.count,.int .i64 q.from',.bool q.flag,.int .i64 q.bat.base,.int .i64 q.bat.span,.int .i64 q.bat.prod,.int .i64 q.bat.epoch,.int .i64 q.bat.seq,rv,.int .i64 q.fop,.string q.fnm,.string q.fvl,kv,.string q.group,.int .i64 q.member,.int .i64 q.gen,tv] 41)))).trans (zC w (.cells #[.int .i64 14,.string q.name,.int .i64 q.index,.int .i64 q.count,.int .i64 q.from',.bool q.flag,.int .i64 q.bat.base,.int .i64 q.bat.span,.int .i64 q.bat.prod,.int .i64 q.bat.epoch,.int .i64 q.bat.seq,rv,.int .i64 q.fop,.string q.fnm,.string q.fvl,kv,.string q.group,.int .i64 q.member,.int .i64 q.gen,tv] 41));have XQ:=zz xq;have M2:=zz (hM.old f2);have LOW:=zz hM.low;have E2:=hE.keep f2;have EN:=zz E2;have CW:=zz (jH q rv kv tv K ft lt fok lok E2 hsz);have F2:=zz f2;have WF:=zz hE.wf;clear f2 s1 x1 hM hE E2 hsz;unfold zT at CW ⊢;rw [hk] at CW ⊢;go_enter Tryz.func12,Tryz.ntmps12
 go_wp2_with (refine wpList_load_row rfl 41 _ rfl w.heap.size rfl 41 _ (0,0) _ xq Tryz.underlying41 rfl (by kernel_rfl) ?_)
 clear xq;generalize ((w.alloc (.cells #[.int .i64 14,.string q.name,.int .i64 q.index,.int .i64 q.count,.int .i64 q.from',.bool q.flag,.int .i64 q.bat.base,.int .i64 q.bat.span,.int .i64 q.bat.prod,.int .i64 q.bat.epoch,.int .i64 q.bat.seq,rv,.int .i64 q.fop,.string q.fnm,.string q.fvl,kv,.string q.group,.int .i64 q.member,.int .i64 q.gen,tv] 41)).alloc (.cells #[.int .i64 0,.int .i64 0,.int .i64 0,.int .i64 0,.int .i64 0,.int .i64 0,.int .i64 0,.slice none 0 0,.slice none 0 0,.slice none 0 0] 31))=w2 at *;refine CW.out.mono ?_;rintro e w3 ⟨rfl,hf3⟩;have M3:=zz (M2.out.old hf3);have E3:=zz (EN.out.keep hf3);have X1:=zz ((hf3.block _ (zA X1.out) fun h=>h).trans X1.out);have XQ:=zz ((hf3.block _ (zA XQ.out) fun h=>h).trans XQ.out);have F3:=zz (F2.out.tr hf3);have LR:=zz (zA X1.out);clear hf3 CW M2 EN F2;have henc:∃b,b=zy q ft lt fok lok:=⟨_,rfl⟩;obtain ⟨enc,henc⟩:=henc;rw [←henc];have HENC:=zz henc;clear henc;cases enc
 ·exact absurd (HENC.out.trans he) (by decide)
 ·unfold zDx
  simp only [if_true];have FW:=zz (jR M3.out q.name q.index (by have:=WF.out.name; unfold maxLen; omega) WF.out.index);obtain ⟨fd,hfd⟩:∃fd,fd=zU m q.name q.index:=⟨_,rfl⟩;rw [←hfd] at FW;clear hfd;have hpv:∃pa,zFn fd=.pointer pa:=by cases fd <;> exact ⟨_,rfl⟩
  obtain ⟨pa,hpv⟩:=hpv;rw [hpv] at FW;clear hpv;have dq:=fun j=>zB XQ.out j
  go_wp2_with fail
  refine FW.out.mono ?_;rintro e w4 ⟨rfl,hf4⟩;have M4:=zz (M3.out.old hf4);have E4:=zz (E3.out.keep hf4);have X1:=zz ((hf4.block _ (zA X1.out) fun h=>h).trans X1.out);have XQ:=zz ((hf4.block _ (zA XQ.out) fun h=>h).trans XQ.out);have F4:=zz (F3.out.tr hf4);clear hf4 FW M3 E3 F3 dq;have dq:=fun j=>zB XQ.out j
  have dm:=fun j=>zB M4.out.b j
  have zm:=fun j=>zd M4.out.b j
  have hnx:=M4.out.nx;have XM:=zz (show zW (w4.setCell ⟨m.mb,2,none⟩ (.int .i64 (m.next+1))) { m with next:=m.next+1 } from by
   have hf:Fr (fun i=>i=m.mb) w4 (w4.setCell ⟨m.mb,2,none⟩ (.int .i64 (m.next+1))):=(Fr.refl (fun i=>i=m.mb) w4).setCell (p:=⟨m.mb,2,none⟩) (.inl rfl) _;have h:=M4.out;obtain ⟨n1,n2,n3,n4,n5⟩:=h.n1;exact ⟨(zE h.b _).trans rfl,h.top.fr hf (by omega) (by omega),h.map.fr hf (by omega),h.n1,h.pos,fun x hx=>(h.part x hx).fr hf fun i hi e=>h.off x hx i hi (.inl e),h.off,h.dis,h.ids,h.tn,by have:=h.nx; dsimp only; omega⟩)
  have FX:=zz ((F4.out.mono (S':=fun i=>i=m.mb) fun _ h=>h.elim).trans ((Fr.refl (fun i=>i=m.mb) w4).setCell (p:=⟨m.mb,2,none⟩) (.inl rfl) (.int .i64 (m.next+1))) fun i e=>.inl e);have lmb:=LOW.out.1 _ (.inl rfl);have X1:=zz ((zV w4 (show w.heap.size+1≠m.mb by omega) (o:=2) (.int .i64 (m.next+1))).trans X1.out);have c2:(w4.setCell ⟨m.mb,2,none⟩ (.int .i64 (m.next+1))).cell? ⟨m.mb,2,none⟩=some (.int .i64 (m.next+1)):=(zB ((zE M4.out.b (o:=2) (.int .i64 (m.next+1))).trans rfl) 2).trans rfl;have e1:m.next+1 - 1=m.next:=by omega
  go_wp2_with fail
  try rw [e1]
  generalize (w4.setCell ⟨m.mb,2,none⟩ (.int .i64 (m.next+1)))=w5 at *;refine (yB m.next w5).mono ?_;rintro e w8 ⟨rfl,hf8⟩;have X8:=(hf8.block _ (zA X1.out) fun h=>h).trans X1.out;have R9:=setRow_heap w8 (w.heap.size+1) _ (zS 0 m.next 0 0 0 0 0 (.slice none 0 0) (.slice none 0 0) (.slice none 0 0)) 31 (0,0) X8;have fE:=zZ (S:=fun i=>i=w.heap.size+1) (Fr.refl _ w8) (.inl rfl) (zS 0 m.next 0 0 0 0 0 (.slice none 0 0) (.slice none 0 0) (.slice none 0 0));have MF:=zz ((XM.out.old hf8).fr fE (fun i hi e=>by have:=LOW.out.1 i hi; omega) fun x hx i hi e=>by have:=LOW.out.2 x hx i hi; omega);have FF:=zz ((FX.out.trans hf8 fun _ h=>h.elim).trans fE fun i e=>.inr (by omega));clear hf8 fE;go_wp2_with (refine zJ rfl _ _ rfl (w.heap.size+1) 0 m.next rfl rfl _ X8 rfl ?_)
  try simp only [Exit.inBlock,Exit.then]
  refine bodyPost_ret (results_cell_row rfl _ _ (w.heap.size+1) 31 _ (0,0) _ rfl R9 Tryz.underlying31 rfl (by kernel_rfl)) rfl ?_;exact ⟨rfl,MF.out,FF.out⟩
end
section
variable {w w':World} {S:Nat→Prop}
def DoFetch (w:World) (m:zG) (d:zR) (at' cnt:Int) (e:Ending) (w':World):Prop:=
 zJi w d at' cnt e w'∧zW w' m
theorem zNq {d:zR} {a c:Int} {e:Ending} (h:zJi w d a c e w'):Fr (fun _=>False) w w':=by
 rcases h with ⟨-,-,h⟩ | ⟨-,bv,-,-,h⟩
 ·exact h
 ·exact h
end
section
variable {w w':World} {S:Nat→Prop}
theorem zTj {q:Req} (h:zBf q) (ft lt:ByteArray):(yQ ByteArray.empty q ft lt).size≤q.name.size+q.group.size+(uU q.bat).size+ft.size+lt.size+130:=by
 have p1:=zb h.kind;have p2:=xt (show q.name.size≤1000000000000000000 by have:=h.name; omega);have p5:=xt (show (uU q.bat).size≤1000000000000000000 by have:=h.bat; omega);have p7:=xt (show q.group.size≤1000000000000000000 by have:=h.group; omega);have p4:=zb (show (Lit.int .i64 (if q.flag then 1 else 0)).wf=true by cases q.flag <;> rfl);have q3:=vi [q.index,q.count,q.from'] (ByteArray.empty++zM q.kind++zI q.name) (by
  intro n hn;rcases List.mem_cons.1 hn with rfl | hn
  ·exact h.index
  rcases List.mem_cons.1 hn with rfl | hn
  ·exact h.count
  rcases List.mem_cons.1 hn with rfl | hn
  ·exact h.from'
  ·cases hn)
 have q8:=vi [q.member,q.gen] (plS (ByteArray.empty++zM q.kind++zI q.name) [q.index,q.count,q.from']++zM (if q.flag then 1 else 0)++zI (uU q.bat)++ft++zI q.group) (by
  intro n hn;rcases List.mem_cons.1 hn with rfl | hn
  ·exact h.member
  rcases List.mem_cons.1 hn with rfl | hn
  ·exact h.gen
  ·cases hn)
 unfold yQ;simp only [ByteArray.size_append,List.length_cons,List.length_nil] at q3 q8 ⊢;have e0:ByteArray.empty.size=0:=rfl;omega
theorem putS0:(zM 0).size≤10:=zb rfl
theorem text0:(zI ⟨#[0]⟩).size≤11:=xt (by decide)
theorem kH {q:Req} (hw:zBf q):(yQ ByteArray.empty q (zI ⟨#[0]⟩) (zM 0)).size≤2000000000000000:=by
 have:=zTj hw (zI ⟨#[0]⟩) (zM 0)
 have:=putS0; have:=text0; have:=hw.name; have:=hw.group; have:=hw.bat
 omega
structure zGw (q:Req):Prop where
 kind:1≤q.kind∧q.kind≤14
 index:-1≤q.index∧q.index≤2199023255552
 count:-1≤q.count∧q.count≤2199023255552
 from':-1≤q.from'∧q.from'≤2199023255552
 member:-1≤q.member∧q.member≤2199023255552
 gen:-1≤q.gen∧q.gen≤2199023255552
 name:q.name.size≤100
 group:q.group.size≤100
 bat:zCn q.bat=true
 size:(uU q.bat).size≤50000
theorem zGw.wf {q:Req} (h:zGw q):zBf q:=by
 obtain ⟨h1,h2,h3,h4,h5,h6,h7,h8,h9,h10⟩:=h;have e:∀n:Int,-1≤n→n≤2199023255552→(Lit.int .i64 n).wf=true:=fun n a b=>by simp [Lit.wf,IntKind.min,IntKind.max,IntKind.signed,IntKind.bits]; omega
 exact ⟨e _ (by omega) (by omega),e _ h2.1 h2.2,e _ h3.1 h3.2,e _ h4.1 h4.2,e _ h5.1 h5.2,e _ h6.1 h6.2,by omega,by omega,by omega⟩
theorem kI {q:Req} (h:zGw q):zy q (zI ⟨#[0]⟩) (zM 0) true true=true:=by
 have hs:=zTj h.wf (zI ⟨#[0]⟩) (zM 0)
 have:=putS0; have:=text0; have:=h.name; have:=h.group; have:=h.size
 unfold zy;rw [decide_eq_true (show (yQ ByteArray.empty q (zI ⟨#[0]⟩) (zM 0)).size≤60000 by omega),Bool.and_true];unfold reqB plB;simp only [List.foldl_cons,List.foldl_nil,okN,okT,h.bat,Bool.not_true,Bool.or_false];have k:=h.kind; have i1:=h.index; have i2:=h.count; have i3:=h.from'; have i4:=h.member; have i5:=h.gen
 have n1:((q.name.size:Int)≤100):=by omega
 have n2:((q.group.size:Int)≤100):=by omega
 simp [k,i1,i2,i3,i4,i5,n1,n2]
theorem zGx {b:Bat} (h:km b=true):uU b=ByteArray.empty∧zCn b=true:=by
 refine ⟨if_pos h,?_⟩;unfold zCn; rw [h]; rfl
theorem optT_ok {b:Bat} (h:km b=false) (hb:xO b):uU b=ye b∧zCn b=true:=by
 refine ⟨by unfold uU; rw [h,if_neg (by simp),if_pos hb],by simp [zCn,hb]⟩
def zTk:Bat:=⟨0,0,0,0,0,[]⟩
def yy (kind:Int) (name:ByteArray) (index count from':Int):Req:=⟨kind,name,index,count,from',false,zTk,0,⟨#[]⟩,⟨#[]⟩,⟨#[]⟩,0,0⟩
theorem vm {kind:Int} {name:ByteArray} {index count from':Int} (hk:1≤kind∧kind≤14) (hn:name.size≤100) (h1:-1≤index∧index≤2199023255552) (h2:-1≤count∧count≤2199023255552) (h3:-1≤from'∧from'≤2199023255552):zGw (yy kind name index count from'):=
 ⟨hk,h1,h2,h3,⟨by show (-1:Int)≤0; omega,by show (0:Int)≤2199023255552; omega⟩,⟨by show (-1:Int)≤0; omega,by show (0:Int)≤2199023255552; omega⟩,hn,Nat.zero_le _,(zGx (b:=zTk) rfl).2,by show (uU zTk).size≤50000; rw [(zGx (b:=zTk) rfl).1]; decide⟩
def kS:ByteArray:=⟨#[107]⟩
def vS:ByteArray:=⟨#[118]⟩
def simR:Rec:=⟨0,0,false,kS,false,vS,[]⟩
def xJ (n:Int):Bat:=⟨n,1,-1,-1,-1,[simR]⟩
theorem simR_ok:jp simR:=by constructor <;> simp [simR,kS,vS,ByteArray.size]
theorem zFt {n:Int} (h:zig n < 128):(zM n).size=1:=by rw [zNg,zq h]; rfl
theorem zJl {n:Int} (h0:0≤n) (h1:n < 64):(xN (xJ n)).size=14:=by
 have e:xN (xJ n)=zM n++zM 1++zM (-1)++zM (-1)++zM (-1)++zM 1++(zM 0++zM 0++zM 0++(zM 1++kS)++(zM 1++vS)++zM 0):=rfl;rw [e];simp only [ByteArray.size_append];rw [zFt (n:=n) (by unfold zig; split <;> omega),zFt (n:=1) (by decide),zFt (n:=-1) (by decide),zFt (n:=0) (by decide)];rfl
theorem zCq {n:Int} (h0:0≤n) (h1:n < 64):xO (xJ n):=by
 have hb:=zJl h0 h1;refine { base0:=h0,base1:=by show n≤_; omega,span0:=by show (1:Int)≤1; omega,span1:=by show (1:Int)≤50; omega,who:=.inl ⟨rfl,rfl,rfl⟩,len:=by simp [xJ],recs:=fun k r hk=>?_,body:=by omega };cases k with
 | zero=>
  simp [xJ] at hk;subst hk;exact ⟨simR_ok,by show (0:Int) < 1; omega,by show (-1:Int) < 0; omega⟩
 | succ k=>simp [xJ] at hk
theorem zDy {n:Int} (h0:0≤n) (h1:n < 64):(ye (xJ n)).size=22:=by
 rw [zJg,zJl h0 h1]
def SimPost (w:World) (e:Ending) (w':World):Prop:=∃oa c,e=.returned (yP (xJ 0) (.slice oa 1 c))∧xE (fun b=>w.heap.size≤b) w' (.slice oa 1 c) (xJ 0).recs∧Fr (fun _=>False) w w'
theorem kr (w:World):Calls Tryz.prog 21 #[] w (SimPost w):=by
 go_enter Tryz.func21,Tryz.ntmps21
 go_wp2_with fail
 refine bodyPost_ret (v:=yP (xJ 0) (.slice (some ⟨w.heap.size+1,0,none⟩) 1 1)) (by simp [results,Tryz.f21,go_sem,yP,xJ]) rfl ⟨_,_,rfl,?_,((Fr.same w).alloc _).alloc _⟩;have hs:(w.alloc (.cells #[.int .i64 0,.int .i64 1,.int .i64 (-1),.int .i64 (-1),.int .i64 (-1),.slice (some ⟨w.heap.size+1,0,none⟩) 1 1] 35)).heap.size=w.heap.size+1:=by simp
 generalize (w.alloc (.cells #[.int .i64 0,.int .i64 1,.int .i64 (-1),.int .i64 (-1),.int .i64 (-1),.slice (some ⟨w.heap.size+1,0,none⟩) 1 1] 35))=W at hs ⊢;refine ⟨_,_,rfl,fun k r hk=>?_⟩;cases k with
 | zero=>
  simp [xJ] at hk;subst hk;have hc:=zD W #[.int .i64 0,.int .i64 0,.bool false,.string kS,.bool false,.string vS,.slice none 0 0] 95;rw [hs] at hc;exact ⟨⟨w.heap.size+1,0,none⟩,.slice none 0 0,rfl,Nat.le_succ _,⟨hc 0,hc 1,hc 2,hc 3,hc 4,hc 5,hc 6⟩,zTi _ _⟩
 | succ k=>simp [xJ] at hk
end
section
variable {w w':World} {S:Nat→Prop}
def tS:ByteArray:=⟨#[116]⟩
def uS:ByteArray:=⟨#[117]⟩
theorem zEu (w:World) (cells:Array Value):Fr (fun _=>False) w ((w.alloc (.cells #[.int .i64 0,.int .i64 0,.int .i64 0,.int .i64 0,.int .i64 0,.int .i64 0,.int .i64 0,.slice none 0 0,.slice none 0 0,.slice none 0 0] 31)).setRow w.heap.size cells)∧((w.alloc (.cells #[.int .i64 0,.int .i64 0,.int .i64 0,.int .i64 0,.int .i64 0,.int .i64 0,.int .i64 0,.slice none 0 0,.slice none 0 0,.slice none 0 0] 31)).setRow w.heap.size cells).heap[w.heap.size]?=some (.cells cells 31 (0,0)):=
 ⟨zZ ((Fr.same w).alloc _) (.inr (Nat.le_refl _)) _,setRow_heap _ _ _ _ 31 (0,0) (zC w _)⟩
theorem zWi {m m':zG} {name:ByteArray} {count:Int} (h:m'.TL=jb m.TL name (yq m.tn count)) (ix:Int):zU m' name ix=zt m'.L ⟨m.tn,ix⟩:=by
 unfold zU;rw [h,va,if_pos rfl];rfl
def zCr (name:ByteArray) (index:Int) (b:Bat):Req:=⟨4,name,index,0,0,false,b,0,⟨#[]⟩,⟨#[]⟩,⟨#[]⟩,0,0⟩
theorem sim_in (index:Int) (h:-1≤index∧index≤2199023255552):zGw (zCr tS index (xJ 0)):=by
 obtain ⟨h1,h2⟩:=optT_ok (b:=xJ 0) rfl (zCq (by omega) (by omega));refine ⟨⟨by show (1:Int)≤4; omega,by show (4:Int)≤14; omega⟩,h,⟨by show (-1:Int)≤0; omega,by show (0:Int)≤2199023255552; omega⟩,⟨by show (-1:Int)≤0; omega,by show (0:Int)≤2199023255552; omega⟩,⟨by show (-1:Int)≤0; omega,by show (0:Int)≤2199023255552; omega⟩,⟨by show (-1:Int)≤0; omega,by show (0:Int)≤2199023255552; omega⟩,by show tS.size≤100; decide,Nat.zero_le _,h2,?_⟩
 show (uU (xJ 0)).size≤50000
 rw [h1,zDy (by omega) (by omega)];omega
theorem zNr:yF 1 0 [xJ (0:Nat),xJ (1:Nat)] 0 []=[xJ (1:Nat)]:=by
 rw [zEt (show (xJ (0:Nat)).base+(xJ (0:Nat)).span≤1 by decide),uM (show ¬(xJ (1:Nat)).base+(xJ (1:Nat)).span≤1 by decide) (fun h=>by simp at h)];rfl
def jh (kind:Int) (name:ByteArray) (index count from':Int):Value:=.agg #[.int .i64 kind,.string name,.int .i64 index,.int .i64 count,.int .i64 from',.bool false,.int .i64 0,.int .i64 0,.int .i64 0,.int .i64 0,.int .i64 0,.slice none 0 0,.int .i64 0,.string ⟨#[]⟩,.string ⟨#[]⟩,.slice none 0 0,.string ⟨#[]⟩,.int .i64 0,.int .i64 0,.slice none 0 0]
structure zBh (w0 w:World) (m:zG):Prop where
 a:zW w m
 bs:∀i,m.B i→w0.heap.size≤i
 ts:∀x∈m.L,∀i,x.2.T i→w0.heap.size≤i
 f:Fr (fun _=>False) w0 w
theorem zBh.old {w0:World} {m:zG} (h:zBh w0 w m) (hf:Fr (fun _=>False) w w'):zBh w0 w' m:=⟨h.a.old hf,h.bs,h.ts,h.f.tr hf⟩
theorem zBh.same {w0:World} {m:zG} (h:zBh w0 w m) (ha:zW w' m) (hf:Fr (fun _=>False) w w'):zBh w0 w' m:=⟨ha,h.bs,h.ts,h.f.tr hf⟩
theorem zBh.set {w0:World} {m:zG} (h:zBh w0 w m) {p:zY} {d d':zR} (hp:(p,d)∈m.L) (ha:zW w' { m with L:=vG m.L p d' }) (hT:∀i,d'.T i→d.T i∨w.heap.size≤i) (hf:Fr d.T w w'):zBh w0 w' { m with L:=vG m.L p d' } :=by
 refine ⟨ha,h.bs,?_,h.f.trans hf fun i hi=>.inr (h.ts _ hp i hi)⟩;intro x hx i hi;obtain ⟨y,hy,rfl⟩:=List.mem_map.1 hx;by_cases e:y.1=p
 ·rw [if_pos e] at hi
  rcases hT i hi with h1 | h1
  ·exact h.ts _ hp i h1
  ·exact Nat.le_trans h.f.size h1
 ·rw [if_neg e] at hi; exact h.ts y hy i hi
theorem zWj {m:zG} {name:ByteArray} {ix:Int} {p:zY} {d d':zR} (hL:zt m.L p=some d) (ht:∃v,zk m.TL name=some v∧p=⟨jm v,ix⟩):zU { m with L:=vG m.L p d' } name ix=some d':=by
 obtain ⟨v,hv,rfl⟩:=ht;unfold zU;rw [hv]
 show zt (vG m.L ⟨jm v,ix⟩ d') ⟨jm v,ix⟩=some d'
 rw [zAs hL,if_pos rfl]
structure zNs (w0 w:World) (mb:Nat) (m:zG) (count:Int):Prop where
 n:zBh w0 w m
 mb:m.mb=mb
 tl:m.TL=[(tS,yq 0 count)]
 nx:m.next=0
theorem zNs.get {w0:World} {mb:Nat} {m:zG} {count:Int} (h:zNs w0 w mb m count):zk m.TL tS=some (yq 0 count):=by rw [h.tl]; rfl
theorem zNs.find {w0:World} {mb:Nat} {m:zG} {count:Int} (h:zNs w0 w mb m count) (ix:Int):zU m tS ix=zt m.L ⟨0,ix⟩:=by
 unfold zU; rw [h.get]; rfl
theorem zNs.none {w0:World} {mb:Nat} {m:zG} {count:Int} (h:zNs w0 w mb m count) (ix:Int):zU m uS ix=none:=by
 unfold zU; rw [h.tl]; rfl
def MadePost (w0:World) (mb:Nat) (count:Int) (e:Ending) (w':World):Prop:=
 e=.returned (xC 0 0)∧∃m,zNs w0 w' mb m count∧(∀i:Int,0≤i→i < count→∃d,zt m.L ⟨0,i⟩=some d∧zQr d)∧(∀i:Int,¬(0≤i∧i < count)→zt m.L ⟨0,i⟩=none)
end
section
variable {w w':World} {S:Nat→Prop}
theorem blk {g:Nat} {c:Array Value} {t:TypeId} (h:w.heap[g]?=some (.cells c t (0,0))) (hf:Fr S w w') (hS:¬S g):w'.heap[g]?=some (.cells c t (0,0)):=(hf.block _ (zA h) hS).trans h
def simL:Nat→List Bat
 | 0=>[]
 | k+1=>simL k++ [xJ k]
theorem zGy:∀k,(simL k).length=k
 | 0=>rfl
 | k+1=>by simp [simL,zGy k]
structure uu (w0 w:World) (mb:Nat) (m:zG) (d:zR) (k:Nat):Prop where
 o:zNs w0 w mb m 1
 f:zt m.L ⟨0,0⟩=some d
 st:d.st=0
 en:d.en=k
 bats:d.bats=simL k
 n:d.n=k
 no:zt m.L ⟨0,1⟩=none
theorem uu.old {w0:World} {mb:Nat} {m:zG} {d:zR} {k:Nat} (h:uu w0 w mb m d k) (hf:Fr (fun _=>False) w w'):uu w0 w' mb m d k:=
 ⟨⟨h.o.n.old hf,h.o.mb,h.o.tl,h.o.nx⟩,h.f,h.st,h.en,h.bats,h.n,h.no⟩
theorem zTl:∀k,k≤60→∀b∈simL k,xO b
 | 0,_,b,h=>by cases h
 | k+1,hk,b,h=>by
  rcases List.mem_append.1 h with h | h
  ·exact zTl k (by omega) b h
  ·obtain rfl:=List.mem_singleton.1 h
   exact zCq (by omega) (by omega)
theorem zNt {w0:World} {mb:Nat} {m:zG} {d:zR} {k:Nat} (h:uu w0 w mb m d k) (ix:Int) (hi:ix=0∨ix=1):Calls Tryz.prog 16 #[.pointer (some ⟨mb,0,none⟩),.string ⟨#[116]⟩,.int .i64 ix] w fun e w'=>e=.returned (.int .i64 (if ix=0 then (k:Int) else -1))∧Fr (fun _=>False) w w':=by
 have P:=vj h.o.n.a tS ix (by decide) (by rcases hi with rfl | rfl <;> rfl);rw [h.o.mb] at P;refine P.mono ?_;rintro e w' ⟨rfl,hf⟩;refine ⟨?_,hf⟩;have e1:zU m tS ix=zt m.L ⟨0,ix⟩:=h.o.find ix;unfold kG;rw [e1];rcases hi with rfl | rfl
 ·rw [h.f]; simp only [h.en,if_true]
 ·rw [h.no]; rfl
end
section
variable {w w':World} {S:Nat→Prop}
def zG.A (m:zG) (i:Nat):Prop:=m.B i∨∃x∈m.L,x.2.T i
theorem zG.A_lt {m:zG} (h:zW w m) {i:Nat} (hi:m.A i):i < w.heap.size:=by
 rcases hi with h1 | ⟨x,hx,h1⟩
 ·exact h.low.1 i h1
 ·exact h.low.2 x hx i h1
end
end Go.Proofs.YtfdhofabgdkkkaaGreatDoor
