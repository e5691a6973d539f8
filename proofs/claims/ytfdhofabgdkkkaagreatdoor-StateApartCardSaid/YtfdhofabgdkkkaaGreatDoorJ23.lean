/- A part of the proof that what the machine is told keeps its bounds. -/
import Derived.Test.YtfdhofabgdkkkaaGreatDoorJ22
import Derived.Test.YtfdhofabgdkkkaaGreatDoorJ20
set_option maxHeartbeats 128000000
set_option maxRecDepth 100000
namespace Go.Proofs.YtfdhofabgdkkkaaGreatDoor
open Lib renaming hid→zz
open Go.RowKit Go.Fm Go.BigFrame Go.Shelf Go.Maps
set_option linter.unusedVariables false
set_option linter.unusedSimpArgs false
section
variable {w w':World} {S:Nat→Prop} {K:Nat→Prop}
theorem zLl:∀(F:Fst) (n:Nat),uV F n < 100→uV F n=n+F.sz
 | .nil,n,h=>by simp [uV,Fst.sz]
 | .cons op nm vl ks r,n,h=>by
  rw [zJm] at h ⊢;by_cases h1:100≤n
  ·rw [if_pos h1] at h; omega
  ·rw [if_neg h1] at h ⊢
   have h2:=zFv r (uV ks (n+1));have h3:=zLl ks (n+1) (by omega);have h4:=zLl r _ h;rw [h4,h3];simp only [Fst.sz];omega
theorem zTo {op:Int} {nm vl:ByteArray} {ks:Fst} (h:xp op nm vl ks=true):(exL op nm vl ks).length≤60630:=by
 unfold xp at h;simp only [Bool.and_eq_true,decide_eq_true_eq] at h;obtain ⟨h1,h2⟩:=h;obtain ⟨h3,h4⟩:=yi h2;have e:=zLl ks 1 (by omega)
 have:=zTn (jI h3)
 have:=zLj ks _ h4
 unfold exL;rw [List.length_append];omega
def exS (op:Int) (nm vl:ByteArray) (ks:Fst):ByteArray:=⟨(exL op nm vl ks).toArray⟩
theorem exS_size (op:Int) (nm vl:ByteArray) (ks:Fst):(exS op nm vl ks).size=(exL op nm vl ks).length:=by simp [exS,ByteArray.size]
def PrPost (ok:Bool) (s:ByteArray) (w:World) (e:Ending) (w':World):Prop:=e=.returned (.tuple #[.string (if ok then s else ⟨#[]⟩),.int .i64 (if ok then 0 else 1)])∧Fr (fun _=>False) w w'
theorem zQx (op:Int) (nm vl:ByteArray) (kv:Value) (ks:Fst) (hk:xV K w kv ks) (ho:∀i,K i→i < w.heap.size):Calls Tryz.prog 189 #[exV op nm vl kv] w (PrPost (xp op nm vl ks) (exS op nm vl ks) w):=by
 obtain ⟨oa,cap,rfl,-⟩:=id hk;have f1:=(Fr.same w).alloc (.cells #[.int .i64 op,.string nm,.string vl,.slice oa ks.len cap] 38);have CH:=zz (ku op nm vl _ ks (hk.old f1) fun i hi=>Nat.lt_of_lt_of_le (ho i hi) f1.size);have F1:=zz f1;have X1:=zz (zC w (.cells #[.int .i64 op,.string nm,.string vl,.slice oa ks.len cap] 38));have KW:=zz hk;have dx:=zD w #[.int .i64 op,.string nm,.string vl,.slice oa ks.len cap] 38;unfold exV at CH ⊢;clear f1 hk;go_enter Tryz.func189,Tryz.ntmps189
 go_wp2_with fail
 generalize (w.alloc (.cells #[.int .i64 op,.string nm,.string vl,.slice oa ks.len cap] 38))=w1 at *;refine CH.out.mono ?_;rintro e w2 ⟨rfl,f2⟩;have F2:=zz (F1.out.tr f2);have X2:=zz (blk X1.out f2 fun h=>h);clear f2 CH dx F1 X1;obtain ⟨cb,hcb⟩:∃cb,cb=xp op nm vl ks:=⟨_,rfl⟩;rw [←hcb];have HCB:=zz hcb;clear hcb;cases cb with
 | false=>
  simp only [Bool.false_eq_true,if_false];go_wp2_with fail
  go_ret2
  refine ⟨?_,F2.out⟩;rw [←HCB.out];rfl
 | true=>
  simp only [if_true];have hp:yz op nm vl ks 6=true:=by
   have:=HCB.out.symm
   unfold xp at this;simp only [Bool.and_eq_true] at this;exact this.2
  have hl:=zTo HCB.out.symm;have WW:=zz (zNz (K:=K) w2.heap.size (fun i hi=>Nat.lt_of_lt_of_le (ho i hi) F2.out.size) (ks.sz+1) ks op nm vl _ 6 (.slice none 0 0) [] w2 (by omega) hp (by simp; omega) (KW.out.old F2.out) (Nat.le_refl _) (World.ownsRow_nil _ _ _ _));unfold exV at WW;have dx:=zB X2.out;go_wp2_with fail
  refine WW.out.mono ?_;rintro e w3 ⟨v3,rfl,o3,g3⟩;have F3:=zz (F2.out.tr g3.top);rw [List.nil_append] at o3;unfold uN at o3;obtain ⟨L,hL⟩:∃L,L=exL op nm vl ks:=⟨_,rfl⟩;rw [←hL] at o3;have hpos:0 < L.length:=by rw [hL]; unfold exL opL; simp
  have HL:=zz hL;obtain ⟨og,cg,rfl,hat⟩:=xz o3;obtain ⟨gg,rfl,-,-,hcell⟩:=hat hpos;have hconv:=run_convert_bytes_back (P:=Tryz.prog) w3 305 9 5 ⟨gg,0,none⟩ cg L Tryz.underlying305 Tryz.underlying5 Tryz.underlying9 (fun j hj=>by
   rw [zi];refine hcell j _ ?_;rw [List.getElem?_map,List.getElem?_eq_getElem hj]; rfl)
  clear o3 g3 WW dx hat hcell hL hpos hp hl;go_wp2_with fail
  go_ret2
  refine ⟨?_,F3.out⟩;rw [←HCB.out];unfold exS;rw [←HL.out];rfl
end
section
variable {P:Program} {w:World}
theorem kw (p:Addr) (ty:TypeId) (vs:List Value) (d:TypeDesc) (hc:∀j v,vs[j]?=some v→w.cell? (p.add j)=some v)
  (hu:P.underlying ty=some d) (hd:(match d with | .struct _ | .array _ _=>true | _=>false)=true) (hi:(P.info? ty).map (·.size)=some vs.length):
  (loadVar ty p).run P w=.ok (.agg vs.toArray) w:=by
 have hl:(loadCells p vs.length).run P w=.ok vs.toArray w:=run_loadCells_list (P:=P) w p vs hc;cases hq:P.info? ty with
 | none=>simp [hq] at hi
 | some i=>
  have hs:i.size=vs.length:=by simpa [hq] using hi
  have hagg:(isAgg ty).run P w=.ok true w:=by
   unfold isAgg;rw [Sem.run_bind,run_underlying hu w];cases d <;> simp_all
  simp [loadVar,Sem.run_bind,hagg,sizeOf,typeInfo,hq,hs,hl]
theorem kx {ops:Array Oper} {rest:List Oper} {o:Oper} {a:Act} {Q:Exit→Act→World→Prop} (hgd:o.guard=none) (ty:TypeId) (x:Operand) (ho:o.op=.load ty x)
  (p:Addr) (hx:a.eval x=.pointer (some p)) (vs:List Value) (d:TypeDesc) (hc:∀j v,vs[j]?=some v→w.cell? (p.add j)=some v)
  (hu:P.underlying ty=some d) (hd:(match d with | .struct _ | .array _ _=>true | _=>false)=true) (hi:(P.info? ty).map (·.size)=some vs.length)
  (h:wpList P ops Q rest (a.put o.dst (.agg vs.toArray)) w):wpList P ops Q (o::rest) a w:=
 wpList_plain hgd fun _ hK=>by
  unfold Oper.wp execOp;simp only [ho,hx,Instr.loadAt,Instr.sureAddr,Sem.run_bind,Sem.run_pure,Result.andThen_ok,kw p ty vs d hc hu hd hi];exact hK _ _ h
theorem uW {ops:Array Oper} {rest:List Oper} {o:Oper} {a:Act} {Q:Act→Prop} {C:World→Prop} (hgd:o.guard=none) (ty:TypeId) (x:Operand) (ho:o.op=.load ty x)
  (p:Addr) (hx:a.eval x=.pointer (some p)) (vs:List Value) (d:TypeDesc) (hc:∀w,C w→∀j v,vs[j]?=some v→w.cell? (p.add j)=some v)
  (hu:P.underlying ty=some d) (hd:(match d with | .struct _ | .array _ _=>true | _=>false)=true) (hi:(P.info? ty).map (·.size)=some vs.length)
  (h:wpQuiet P ops C Q rest (a.put o.dst (.agg vs.toArray))):wpQuiet P ops C Q (o::rest) a:=by
 refine BigFrame.wpQuiet_want (by unfold Region.wanted; rw [hgd]) fun K hK=>⟨.agg vs.toArray,fun w hw=>?_,hK _ h⟩
 unfold Oper.quietAt execOp;simp only [ho,hx,Instr.loadAt,Instr.sureAddr,Sem.run_bind,Sem.run_pure,Result.andThen_ok,kw p ty vs d (hc w hw) hu hd hi];exact ⟨rfl,rfl⟩
end
section
variable {w w':World} {S:Nat→Prop} {K:Nat→Prop}
end
theorem kK {α:Type} {l:List α} {k:Nat} {x:α} (h:l[k]?=some x):l.take (k+1)=l.take k++ [x]:=by
 rw [List.take_add_one,h]; rfl
def hdrW (h:Hdr):Nat:=h.key.size+h.val.size
def zJo (hs:List Hdr):Nat:=(hs.map hdrW).sum
def recW (r:Rec):Nat:=r.key.size+r.val.size+zJo r.hs
def zJp (rs:List Rec):Nat:=(rs.map recW).sum
def OkH (h:Hdr):Prop:=h.key.size≤3000∧h.val.size≤3000
def OkR (r:Rec):Prop:=r.hs.length≤12∧r.key.size≤3000∧r.val.size≤3000∧∀h∈r.hs,OkH h
structure SmallB (b:Bat):Prop where
 len:b.recs.length≤50
 recs:∀r∈b.recs,OkR r
 weight:zJp b.recs≤3000
theorem zQy (l:List Hdr) (x:Hdr):zJo (l++ [x])=zJo l+hdrW x:=by simp [zJo]
theorem zQz (l:List Rec) (x:Rec):zJp (l++ [x])=zJp l+recW x:=by simp [zJp]
def AskPost (P:Prop) (w:World) (e:Ending) (w':World):Prop:=∃c:Bool,e=.returned (.bool c)∧(c=true→P)∧Fr (fun _=>False) w w'
theorem zRa (K:Nat→Prop) (b:Bat) (v:Value) (w:World) (h:xE K w v b.recs):
  Calls Tryz.prog 13 #[yP b v] w (AskPost (SmallB b) w):=by
 obtain ⟨oa,cap,rfl,h⟩:=h;have H:=zz h;clear h;have hf0:=(Fr.same w).alloc (.cells (uG b (.slice oa b.recs.length cap)).toArray 35);have hb5:(w.alloc (.cells (uG b (.slice oa b.recs.length cap)).toArray 35)).cell? ⟨w.heap.size,5,none⟩=some (.slice oa b.recs.length cap):=zD w _ 35 5;unfold uG at hf0 hb5;unfold yP;rcases Nat.lt_or_ge 50 b.recs.length with hbig | hlen
 ·go_enter Tryz.func13,Tryz.ntmps13
  go_wp2_with fail
  go_ret
  exact ⟨false,rfl,by simp,hf0⟩
 ·go_enter Tryz.func13,Tryz.ntmps13
  go_wp2_with fail
  generalize (w.alloc (.cells #[.int .i64 b.base,.int .i64 b.span,.int .i64 b.prod,.int .i64 b.epoch,.int .i64 b.seq,.slice oa b.recs.length cap] 35))=W at *;have F0:=zz hf0;have B5:=zz hb5;clear hf0 hb5;go_loopw [3,4] (fun n i wr=>∃k m:Nat,i=.int .i64 k∧n=.int .i64 m∧k≤b.recs.length∧m=zJp (b.recs.take k)∧m≤3000∧(∀r∈b.recs.take k,OkR r)∧Fr (fun _=>False) W wr) (fun _ i _=>b.recs.length - (intOf i).toNat)
  case atStart=>exact ⟨0,0,rfl,rfl,Nat.zero_le _,by simp [zJp],by omega,by simp,Fr.same _⟩
  case round=>
   obtain ⟨k,m,rfl,rfl,hk,hm,hm3,hok,hf⟩:=hrel;have F:=zz hf;have HM:=zz hm;have HOK:=zz hok;have b5:=hf.cel B5.out;clear hf hm hok;rcases Nat.lt_or_ge k b.recs.length with hlt | hge
   ·obtain ⟨x,hx⟩:=zH hlt
    obtain ⟨a,hv,rfl,-,hc,hr⟩:=H.out k x hx;have HX:=zz hx;have hfw:=F0.out.tr F.out;obtain ⟨c0,c1,c2,c3,c4,c5,c6⟩:=hc.to (hfw.block _ hc.lt fun h=>h);have hr1:=hr.old hfw;obtain ⟨ha,hcap,rfl,hh⟩:=hr1;have HH:=zz hh;have hf1:=(Fr.same wr).alloc (.cells (yr x (.slice ha x.hs.length hcap)).toArray 95);have d3:(wr.alloc (.cells (yr x (.slice ha x.hs.length hcap)).toArray 95)).cell? ⟨wr.heap.size,3,none⟩=some (.string x.key):=zD wr _ 95 3;have d5:(wr.alloc (.cells (yr x (.slice ha x.hs.length hcap)).toArray 95)).cell? ⟨wr.heap.size,5,none⟩=some (.string x.val):=zD wr _ 95 5;have d6:(wr.alloc (.cells (yr x (.slice ha x.hs.length hcap)).toArray 95)).cell? ⟨wr.heap.size,6,none⟩=some (.slice ha x.hs.length hcap):=zD wr _ 95 6;unfold yr at hf1 d3 d5 d6;clear hx hc hfw hr hh;by_cases hok:x.hs.length≤12∧x.key.size≤3000∧x.val.size≤3000
    ·obtain ⟨hk1,hk2,hk3⟩:=hok
     go_wp2_with fail
     generalize (wr.alloc (.cells #[.int .i64 x.at',.int .i64 x.tm,.bool x.bare,.string x.key,.bool x.gone,.string x.val,.slice ha x.hs.length hcap] 95))=W2 at *;have F1:=zz hf1;have D6:=zz d6;clear c0 c1 c2 c3 c4 c5 c6 d3 d5 d6 b5 hf1;go_loopw [3,6] (fun n i wr=>∃q p:Nat,i=.int .i64 q∧n=.int .i64 p∧q≤x.hs.length∧p=m+x.key.size+x.val.size+zJo (x.hs.take q)∧p≤9000∧(∀h∈x.hs.take q,OkH h)∧Fr (fun _=>False) W2 wr) (fun _ i _=>x.hs.length - (intOf i).toNat)
     case atStart=>exact ⟨0,m+x.key.size+x.val.size,rfl,by go_num,Nat.zero_le _,by simp [zJo],by omega,by simp,Fr.same _⟩
     case round=>
      obtain ⟨q,p,rfl,rfl,hq,hp,hp9,hoh,hf⟩:=hrel;have G:=zz hf;have HP:=zz hp;have HOH:=zz hoh;have d6:=hf.cel D6.out;clear hf hp hoh;by_cases hcond:q < x.hs.length∧p≤3000
      ·obtain ⟨hq1,hp1⟩:=hcond
       obtain ⟨y,hy⟩:=zH hq1;obtain ⟨a2,rfl,-,e0,e1⟩:=HH.out q y hy;have HY:=zz hy;have e0:=G.out.cel (F1.out.cel e0);have e1:=G.out.cel (F1.out.cel e1);clear hy;by_cases hoy:y.key.size≤3000∧y.val.size≤3000
       ·obtain ⟨hy1,hy2⟩:=hoy
        go_wp2_with fail
        go_quiet (fail)
        have G2:=zz (G.out.drewN nq);clear e0 e1 d6;generalize wr.drewN nq=wr2 at *;go_wp2_with fail
        go_roundw
        case rel=>
         refine ⟨q+1,p+y.key.size+y.val.size,by go_num,by go_num,by omega,?_,by omega,?_,G2.out⟩
         ·rw [kK HY.out,zQy,HP.out]; simp only [hdrW]; omega
         ·intro h hh
          rw [kK HY.out] at hh;rcases List.mem_append.1 hh with h1 | h1
          ·exact HOH.out h h1
          ·simp at h1; subst h1; exact ⟨hy1,hy2⟩
        case measure=>simp [intOf]; omega
       ·have hoy2:3000 < y.key.size∨(y.key.size≤3000∧3000 < y.val.size):=by omega
        clear hoy;rcases hoy2 with hy1 | ⟨hy1,hy2⟩
        all_goals
         go_wp2_with fail
         go_ret
         exact ⟨false,rfl,by simp,((F0.out.tr F.out).tr F1.out).tr G.out⟩
      ·by_cases hp3:3000 < p
       ·rcases Nat.lt_or_ge q x.hs.length with hq1 | hq1
        all_goals
         go_wp2_with fail
         go_ret
         exact ⟨false,rfl,by simp,((F0.out.tr F.out).tr F1.out).tr G.out⟩
       ·have hq1:x.hs.length≤q:=by omega
        clear hcond;go_wp2_with fail
        go_roundw
        case rel=>
         have h1:=HP.out;have h2:=HOH.out;rw [List.take_of_length_le hq1] at h1 h2;refine ⟨k+1,p,by go_num,rfl,by omega,?_,by omega,?_,(F.out.tr F1.out).tr G.out⟩
         ·rw [kK HX.out,zQz,←HM.out,h1]; simp only [recW]; omega
         ·intro r hr
          rw [kK HX.out] at hr;rcases List.mem_append.1 hr with h3 | h3
          ·exact HOK.out r h3
          ·simp at h3; subst h3; exact ⟨hk1,hk2,hk3,h2⟩
        case measure=>simp [intOf]; omega
    ·have hok3:12 < x.hs.length∨(x.hs.length≤12∧3000 < x.key.size)∨(x.hs.length≤12∧x.key.size≤3000∧3000 < x.val.size):=by omega
     have HF:=zz ((F0.out.tr F.out).tr hf1);clear hok;rcases hok3 with hk1 | ⟨hk1,hk2⟩ | ⟨hk1,hk2,hk3⟩
     all_goals
      go_wp2_with fail
      go_ret
      exact ⟨false,rfl,by simp,HF.out⟩
   ·go_wp2_with fail
    go_ret
    obtain rfl:k=b.recs.length:=by omega
    have h1:=HM.out;have h2:=HOK.out;rw [List.take_length] at h1 h2;exact ⟨true,rfl,fun _=>⟨hlen,h2,h1 ▸ hm3⟩,F0.out.tr F.out⟩
section
variable {w w':World} {S:Nat→Prop} {K K2:Nat→Prop}
def AnyBool (w:World) (e:Ending) (w':World):Prop:=(∃b,e=.returned (.bool b))∧Fr (fun _=>False) w w'
theorem zEv (q:Req) (ro:Option Addr) (rn rc:Nat) (kv:Value) (to:Option Addr) (tn tc:Nat) (ks:Fst) (hr:xE K w (.slice ro rn rc) q.bat.recs) (hk:xV K2 w kv ks) (ho:∀i,K2 i→i < w.heap.size):
  Calls Tryz.prog 17 #[.agg (zT q (.slice ro rn rc) kv (.slice to tn tc))] w (AnyBool w):=by
 obtain ⟨ko,kc,rfl,-⟩:=id hk;have f1:=(Fr.same w).alloc (.cells #[.int .i64 q.kind,.string q.name,.int .i64 q.index,.int .i64 q.count,.int .i64 q.from',.bool q.flag,.int .i64 q.bat.base,.int .i64 q.bat.span,.int .i64 q.bat.prod,.int .i64 q.bat.epoch,.int .i64 q.bat.seq,.slice ro rn rc,.int .i64 q.fop,.string q.fnm,.string q.fvl,.slice ko ks.len kc,.string q.group,.int .i64 q.member,.int .i64 q.gen,.slice to tn tc] 50);have X1:=zz (zC w (.cells #[.int .i64 q.kind,.string q.name,.int .i64 q.index,.int .i64 q.count,.int .i64 q.from',.bool q.flag,.int .i64 q.bat.base,.int .i64 q.bat.span,.int .i64 q.bat.prod,.int .i64 q.bat.epoch,.int .i64 q.bat.seq,.slice ro rn rc,.int .i64 q.fop,.string q.fnm,.string q.fvl,.slice ko ks.len kc,.string q.group,.int .i64 q.member,.int .i64 q.gen,.slice to tn tc] 50));have SM:=zz (zRa _ q.bat _ _ (hr.old f1));have F1:=zz f1;have KW:=zz hk;unfold yP at SM;unfold zT;clear f1 hr hk;have dx:=zB X1.out;go_enter Tryz.func17,Tryz.ntmps17
 go_wp2_with fail
 generalize (w.alloc (.cells #[.int .i64 q.kind,.string q.name,.int .i64 q.index,.int .i64 q.count,.int .i64 q.from',.bool q.flag,.int .i64 q.bat.base,.int .i64 q.bat.span,.int .i64 q.bat.prod,.int .i64 q.bat.epoch,.int .i64 q.bat.seq,.slice ro rn rc,.int .i64 q.fop,.string q.fnm,.string q.fvl,.slice ko ks.len kc,.string q.group,.int .i64 q.member,.int .i64 q.gen,.slice to tn tc] 50))=w1 at *;refine SM.out.mono ?_;rintro e w2 ⟨c,rfl,-,f2⟩;have F2:=zz (F1.out.tr f2);have X2:=zz (blk X1.out f2 fun h=>h);clear f2 SM dx X1 F1;cases c with
 | false=>
  go_wp2_with fail
  go_ret
  exact ⟨⟨_,rfl⟩,F2.out⟩
 | true=>
  have RS:=zz (zWl q.fop q.fnm q.fvl _ ks (KW.out.old F2.out) fun i hi=>Nat.lt_of_lt_of_le (ho i hi) F2.out.size);unfold exV at RS;have dx:=zB X2.out;go_wp2_with fail
  refine RS.out.mono ?_;rintro e w3 ⟨rfl,f3⟩;have F3:=zz (F2.out.tr f3);have X3:=zz (blk X2.out f3 fun h=>h);have RD:=zz (zQw q.fop q.fnm q.fvl _ ks (KW.out.old F3.out) fun i hi=>Nat.lt_of_lt_of_le (ho i hi) F3.out.size);unfold exV at RD;clear f3 RS dx X2;have dx:=zB X3.out;by_cases h40:((uZ ks 1 100 100:Nat):Int)≤40
  ·go_wp2_with fail
   refine RD.out.mono ?_;rintro e w4 ⟨rfl,f4⟩;have F4:=zz (F3.out.tr f4);have X4:=zz (blk X3.out f4 fun h=>h);clear f4 RD dx X3;have dx:=zB X4.out;go_wp2_with fail
   all_goals
    go_ret
    exact ⟨⟨_,rfl⟩,F4.out⟩
  ·have h41:40 < ((uZ ks 1 100 100:Nat):Int):=by omega
   go_wp2_with fail
   go_ret
   exact ⟨⟨_,rfl⟩,F3.out⟩
theorem zLm (q:Req) {rv kv tv:Value} (h1:rv.oneCell'=true) (h2:kv.oneCell'=true) (h3:tv.oneCell'=true):(#[.int .i64 q.kind,.string q.name,.int .i64 q.index,.int .i64 q.count,.int .i64 q.from',.bool q.flag,.int .i64 q.bat.base,.int .i64 q.bat.span,.int .i64 q.bat.prod,.int .i64 q.bat.epoch,.int .i64 q.bat.seq,rv,.int .i64 q.fop,.string q.fnm,.string q.fvl,kv,.string q.group,.int .i64 q.member,.int .i64 q.gen,tv]:Array Value).all (·.oneCell')=true:=by
 rw [Array.all_eq_true_iff_forall_mem];intro v hv;simp only [List.mem_toArray,List.mem_cons,List.not_mem_nil,or_false] at hv;rcases hv with rfl | rfl | rfl | rfl | rfl | rfl | rfl | rfl | rfl | rfl | rfl | rfl | rfl | rfl | rfl | rfl | rfl | rfl | rfl | rfl <;> first | rfl | exact h1 | exact h2 | exact h3
theorem zHc (q:Req) (ro:Option Addr) (rn rc:Nat) (ko:Option Addr) (kn kc:Nat) (to:Option Addr) (tn tc:Nat):
  Calls Tryz.prog 18 #[.agg (zT q (.slice ro rn rc) (.slice ko kn kc) (.slice to tn tc))] w fun e w'=>e=.returned (.agg (zT q (.slice ro rn rc) (.slice ko kn kc) (.slice to tn tc)))∧Fr (fun _=>False) w w':=by
 have f1:=(Fr.same w).alloc (.cells #[.int .i64 q.kind,.string q.name,.int .i64 q.index,.int .i64 q.count,.int .i64 q.from',.bool q.flag,.int .i64 q.bat.base,.int .i64 q.bat.span,.int .i64 q.bat.prod,.int .i64 q.bat.epoch,.int .i64 q.bat.seq,.slice ro rn rc,.int .i64 q.fop,.string q.fnm,.string q.fvl,.slice ko kn kc,.string q.group,.int .i64 q.member,.int .i64 q.gen,.slice to tn tc] 50);have f2:=f1.alloc (.cells #[.int .i64 0,.string ⟨#[]⟩,.int .i64 0,.int .i64 0,.int .i64 0,.bool false,.int .i64 0,.int .i64 0,.int .i64 0,.int .i64 0,.int .i64 0,.slice none 0 0,.int .i64 0,.string ⟨#[]⟩,.string ⟨#[]⟩,.slice none 0 0,.string ⟨#[]⟩,.int .i64 0,.int .i64 0,.slice none 0 0] 41);have s1:(w.alloc (.cells #[.int .i64 q.kind,.string q.name,.int .i64 q.index,.int .i64 q.count,.int .i64 q.from',.bool q.flag,.int .i64 q.bat.base,.int .i64 q.bat.span,.int .i64 q.bat.prod,.int .i64 q.bat.epoch,.int .i64 q.bat.seq,.slice ro rn rc,.int .i64 q.fop,.string q.fnm,.string q.fvl,.slice ko kn kc,.string q.group,.int .i64 q.member,.int .i64 q.gen,.slice to tn tc] 50)).heap.size=w.heap.size+1:=by simp
 have x2:=(zF (.cells #[.int .i64 0,.string ⟨#[]⟩,.int .i64 0,.int .i64 0,.int .i64 0,.bool false,.int .i64 0,.int .i64 0,.int .i64 0,.int .i64 0,.int .i64 0,.slice none 0 0,.int .i64 0,.string ⟨#[]⟩,.string ⟨#[]⟩,.slice none 0 0,.string ⟨#[]⟩,.int .i64 0,.int .i64 0,.slice none 0 0] 41) (zA (zC w (.cells #[.int .i64 q.kind,.string q.name,.int .i64 q.index,.int .i64 q.count,.int .i64 q.from',.bool q.flag,.int .i64 q.bat.base,.int .i64 q.bat.span,.int .i64 q.bat.prod,.int .i64 q.bat.epoch,.int .i64 q.bat.seq,.slice ro rn rc,.int .i64 q.fop,.string q.fnm,.string q.fvl,.slice ko kn kc,.string q.group,.int .i64 q.member,.int .i64 q.gen,.slice to tn tc] 50)))).trans (zC w (.cells #[.int .i64 q.kind,.string q.name,.int .i64 q.index,.int .i64 q.count,.int .i64 q.from',.bool q.flag,.int .i64 q.bat.base,.int .i64 q.bat.span,.int .i64 q.bat.prod,.int .i64 q.bat.epoch,.int .i64 q.bat.seq,.slice ro rn rc,.int .i64 q.fop,.string q.fnm,.string q.fvl,.slice ko kn kc,.string q.group,.int .i64 q.member,.int .i64 q.gen,.slice to tn tc] 50));have y2:=zC (w.alloc (.cells #[.int .i64 q.kind,.string q.name,.int .i64 q.index,.int .i64 q.count,.int .i64 q.from',.bool q.flag,.int .i64 q.bat.base,.int .i64 q.bat.span,.int .i64 q.bat.prod,.int .i64 q.bat.epoch,.int .i64 q.bat.seq,.slice ro rn rc,.int .i64 q.fop,.string q.fnm,.string q.fvl,.slice ko kn kc,.string q.group,.int .i64 q.member,.int .i64 q.gen,.slice to tn tc] 50)) (.cells #[.int .i64 0,.string ⟨#[]⟩,.int .i64 0,.int .i64 0,.int .i64 0,.bool false,.int .i64 0,.int .i64 0,.int .i64 0,.int .i64 0,.int .i64 0,.slice none 0 0,.int .i64 0,.string ⟨#[]⟩,.string ⟨#[]⟩,.slice none 0 0,.string ⟨#[]⟩,.int .i64 0,.int .i64 0,.slice none 0 0] 41);rw [s1] at y2;have R2:=zz (setRow_heap _ (w.heap.size+1) _ #[.int .i64 q.kind,.string q.name,.int .i64 q.index,.int .i64 q.count,.int .i64 q.from',.bool q.flag,.int .i64 q.bat.base,.int .i64 q.bat.span,.int .i64 q.bat.prod,.int .i64 q.bat.epoch,.int .i64 q.bat.seq,.slice ro rn rc,.int .i64 q.fop,.string q.fnm,.string q.fvl,.slice ko kn kc,.string q.group,.int .i64 q.member,.int .i64 q.gen,.slice to tn tc] 41 (0,0) y2);have F2:=zz (zZ f2 (g:=w.heap.size+1) (.inr (Nat.le_succ _)) #[.int .i64 q.kind,.string q.name,.int .i64 q.index,.int .i64 q.count,.int .i64 q.from',.bool q.flag,.int .i64 q.bat.base,.int .i64 q.bat.span,.int .i64 q.bat.prod,.int .i64 q.bat.epoch,.int .i64 q.bat.seq,.slice ro rn rc,.int .i64 q.fop,.string q.fnm,.string q.fvl,.slice ko kn kc,.string q.group,.int .i64 q.member,.int .i64 q.gen,.slice to tn tc]);have HX:=zz x2;have dx:=zB x2;unfold zT;clear f1 f2 s1 x2;go_enter Tryz.func18,Tryz.ntmps18
 go_wp2_with (refine wpList_store_row rfl 41 _ _ rfl (w.heap.size+1) #[.int .i64 q.kind,.string q.name,.int .i64 q.index,.int .i64 q.count,.int .i64 q.from',.bool q.flag,.int .i64 q.bat.base,.int .i64 q.bat.span,.int .i64 q.bat.prod,.int .i64 q.bat.epoch,.int .i64 q.bat.seq,.slice ro rn rc,.int .i64 q.fop,.string q.fnm,.string q.fvl,.slice ko kn kc,.string q.group,.int .i64 q.member,.int .i64 q.gen,.slice to tn tc] rfl rfl 41 _ y2 (by kernel_rfl) rfl (zLm q rfl rfl rfl) ?_)
 try simp only [Exit.inBlock,Exit.then]
 refine bodyPost_ret (results_cell_row rfl _ _ (w.heap.size+1) 41 _ (0,0) _ rfl R2.out Tryz.underlying41 rfl (by kernel_rfl)) rfl ?_;exact ⟨rfl,F2.out⟩
end
section
variable {w w':World} {S:Nat→Prop}
end
section
variable {w w':World} {cb xb:Nat} {s:ByteArray} {bad:Bool} {S:Nat→Prop} {K:Nat→Prop}
noncomputable def zFo (op:Int) (nm vl:ByteArray) (ks:Fst):ByteArray:=if xp op nm vl ks then exS op nm vl ks else ⟨#[]⟩
noncomputable def zJq (op:Int) (nm vl:ByteArray) (ks:Fst):Bool:=xp op nm vl ks && okT (zFo op nm vl ks) 60000
theorem zJr (op:Int) (nm vl:ByteArray) (ks:Fst):(zFo op nm vl ks).size≤60630:=by
 unfold zFo;split
 ·rename_i h
  rw [exS_size];exact zTo h
 ·exact Nat.zero_le _
theorem zLn (h:jQ w cb s bad) (op:Int) (nm vl:ByteArray) (kv:Value) (ks:Fst) (hp:zGz w ⟨xb,12,none⟩ op nm vl kv) (hk:xV K w kv ks) (ho:∀i,K i→i < w.heap.size) (hne:xb≠cb) (hs:s.size≤1600000000000000):
  Calls Tryz.prog 123 #[.pointer (some ⟨cb,0,none⟩),.pointer (some ⟨xb,12,none⟩)] w (jf w cb (s++zI (zFo op nm vl ks)) (bad || !zJq op nm vl ks)):=by
 have hcb:=zA h;have f0:=(Fr.same w).alloc (.cells #[.string ⟨#[]⟩] 9);have x0:=zC w (.cells #[.string ⟨#[]⟩] 9);have c0:(w.alloc (.cells #[.string ⟨#[]⟩] 9)).cell? ⟨xb,12,none⟩=some (.int .i64 op):=f0.cel hp.c0;have c1:(w.alloc (.cells #[.string ⟨#[]⟩] 9)).cell? ⟨xb,13,none⟩=some (.string nm):=f0.cel hp.c1;have c2:(w.alloc (.cells #[.string ⟨#[]⟩] 9)).cell? ⟨xb,14,none⟩=some (.string vl):=f0.cel hp.c2;have c3:(w.alloc (.cells #[.string ⟨#[]⟩] 9)).cell? ⟨xb,15,none⟩=some kv:=f0.cel hp.c3;have PW:=zz (zQx op nm vl kv ks (hk.old f0) fun i hi=>Nat.lt_of_lt_of_le (ho i hi) f0.size);obtain ⟨oa,cap,rfl,-⟩:=id hk;have dd:=fun j=>zB (h.old f0) j
 have H0:=zz (h.old f0);have X0:=zz x0;have F0:=zz f0;unfold exV at PW;clear f0 x0 h hp hk;go_enter Tryz.func123,Tryz.ntmps123
 go_wp2_with fail
 generalize (w.alloc (.cells #[.string ⟨#[]⟩] 9))=w0 at *;refine PW.out.mono ?_;rintro e w1 ⟨rfl,f1⟩;have H1:=zz (H0.out.old f1);have X1:=zz ((f1.block _ (zA X0.out) fun h=>h).trans X0.out);have F1:=zz (F0.out.tr f1);have TS:=zz (zJr op nm vl ks);have FO:=zz (show zJq op nm vl ks=(xp op nm vl ks && okT (zFo op nm vl ks) 60000) from rfl);clear f1 c0 c1 c2 c3 dd H0 X0 F0 PW;rw [show (if xp op nm vl ks=true then exS op nm vl ks else ⟨#[]⟩)=zFo op nm vl ks from rfl];obtain ⟨ft,hft⟩:∃ft,ft=zFo op nm vl ks:=⟨_,rfl⟩;rw [←hft] at FO TS;rw [←hft];obtain ⟨fo,hfo⟩:∃fo,fo=zJq op nm vl ks:=⟨_,rfl⟩;rw [←hfo] at FO;have EQ:=zz (And.intro hft hfo);clear hft hfo;cases hcb2:xp op nm vl ks
 all_goals
  rw [hcb2] at FO
  try simp only [if_true,if_false,Bool.false_eq_true]
  clear hcb2
 ·have W:=zz (jv H1.out false)
  go_wp2_with fail
  refine W.out.mono ?_;rintro e w3 ⟨rfl,h3,f3⟩;have X3:=(f3.block _ (zA X1.out) (by omega)).trans X1.out;have dd:=fun j=>zB X3 j
  have fz:=fun j=>zd X3 j
  have hf4:Fr (fun i=>i=w.heap.size) w3 (w3.setCell ⟨w.heap.size,0,none⟩ (.string ft)):=(Fr.refl (fun i=>i=w.heap.size) w3).setCell (p:=⟨w.heap.size,0,none⟩) (.inl rfl) _;have x4:=zE X3 (o:=0) (.string ft);have h4:=h3.fr hf4 (by omega);have F4:=zz (((F1.out.mono (S':=fun i=>i=cb) fun _ h=>h.elim).trans f3 fun _ h=>.inl h).trans hf4 fun i h=>.inr (by omega));have W4:=zz (yw h4 ⟨w.heap.size,0,none⟩ ft 60000 (by have:=TS.out; omega) ((zB x4 0).trans rfl) (by show w.heap.size≠cb; omega) (by omega));rw [show ((bad || !false) || !okT ft 60000)=(bad || !fo) by rw [FO.out]; cases bad <;> rfl] at W4;clear W h3 f3 X3 hf4 x4 h4;go_wp2_with fail
  refine W4.out.mono ?_;rintro e w5 ⟨rfl,h5,f5⟩;have H5:=zz h5;have F5:=zz (F4.out.trans f5 fun _ h=>.inl h);have d5:=fun j=>zB h5 j
  clear h5 f5 W4 dd fz;go_wp2_with fail
  go_end0
  rw [EQ.out.1,EQ.out.2] at H5;exact ⟨rfl,H5.out,F5.out⟩
 ·have W:=zz (jv H1.out true)
  go_wp2_with fail
  refine W.out.mono ?_;rintro e w3 ⟨rfl,h3,f3⟩;have X3:=(f3.block _ (zA X1.out) (by omega)).trans X1.out;have dd:=fun j=>zB X3 j
  have fz:=fun j=>zd X3 j
  have hf4:Fr (fun i=>i=w.heap.size) w3 (w3.setCell ⟨w.heap.size,0,none⟩ (.string ft)):=(Fr.refl (fun i=>i=w.heap.size) w3).setCell (p:=⟨w.heap.size,0,none⟩) (.inl rfl) _;have x4:=zE X3 (o:=0) (.string ft);have h4:=h3.fr hf4 (by omega);have F4:=zz (((F1.out.mono (S':=fun i=>i=cb) fun _ h=>h.elim).trans f3 fun _ h=>.inl h).trans hf4 fun i h=>.inr (by omega));have W4:=zz (yw h4 ⟨w.heap.size,0,none⟩ ft 60000 (by have:=TS.out; omega) ((zB x4 0).trans rfl) (by show w.heap.size≠cb; omega) (by omega));rw [show ((bad || !true) || !okT ft 60000)=(bad || !fo) by rw [FO.out]; cases bad <;> rfl] at W4;clear W h3 f3 X3 hf4 x4 h4;go_wp2_with fail
  refine W4.out.mono ?_;rintro e w5 ⟨rfl,h5,f5⟩;have H5:=zz h5;have F5:=zz (F4.out.trans f5 fun _ h=>.inl h);have d5:=fun j=>zB h5 j
  clear h5 f5 W4 dd fz;go_wp2_with fail
  go_end0
  rw [EQ.out.1,EQ.out.2] at H5;exact ⟨rfl,H5.out,F5.out⟩
def xS (K:Nat→Prop) (w:World) (v:Value) (l:List ByteArray):Prop:=∃oa cap,v=.slice oa l.length cap∧l.length≤maxLen∧∀i x,l[i]?=some x→∃a,oa=some a∧K a.block∧w.cell? (a.add i)=some (.string x)∧x.size≤150000000000000
theorem xS.fr {v:Value} {l:List ByteArray} (h:xS K w v l) (hf:Fr S w w') (hS:∀i,K i→¬S i):xS K w' v l:=by
 obtain ⟨oa,cap,rfl,hm,h1⟩:=h;refine ⟨oa,cap,rfl,hm,fun i x hx=>?_⟩;obtain ⟨a,e,hk,hc,hs⟩:=h1 i x hx;have hb:(a.add i).block=a.block:=by unfold Addr.add; split <;> rfl
 exact ⟨a,e,hk,hf.cell hc (by rw [hb]; exact hS _ hk),hs⟩
theorem xS.old {v:Value} {l:List ByteArray} (h:xS K w v l) (hf:Fr (fun _=>False) w w'):xS K w' v l:=h.fr hf fun _ _ h=>h
theorem xS.at {oa:Option Addr} {n cap:Nat} {l:List ByteArray} {i:Nat} {x:ByteArray} (h:xS K w (.slice oa n cap) l) (hx:l[i]?=some x):∃a,oa=some a∧w.cell? (a.add i)=some (.string x)∧x.size≤150000000000000:=by
 obtain ⟨oa',cap',e,hm,h1⟩:=h;injection e with e1 e2 e3
 subst e1;obtain ⟨a,e,-,hc,hs⟩:=h1 i x hx;exact ⟨a,e,hc,hs⟩
theorem zWw (h:jQ w cb s bad) (bx:Nat) (hb:zNj w bx cb) (p:Addr) (t:ByteArray) (ht:t.size≤150000000000000) (hp:w.cell? p=some (.string t)) (hne:p.block≠cb) (hs:s.size≤2000000000000000):
  Calls Tryz.prog 125 #[.pointer (some p),.pointer (some ⟨bx,0,none⟩)] w (jf w cb (s++zI t) (bad || !okT t 100)):=by
 have TW:=zz (yw h p t 100 (by omega) hp hne hs);have dd:=zB hb;clear hb h hp;go_enter Tryz.func125,Tryz.ntmps125
 go_wp2_with fail
 refine TW.out.mono ?_;rintro e w2 ⟨rfl,h2,f2⟩;have H2:=zz h2;have F2:=zz f2;clear h2 f2 TW;go_wp2_with fail
 go_end0
 exact ⟨rfl,H2.out,F2.out⟩
def zRb:List ByteArray→ByteArray
 | []=>⟨#[]⟩
 | x::r=>zI x++zRb r
def zRc (l:List ByteArray):ByteArray:=zM l.length++zRb l
def zOa (l:List ByteArray):Bool:=okN l.length 0 20 && l.all fun x=>okT x 100
theorem zJs:∀(l:List ByteArray) (x:ByteArray),zRb (l++ [x])=zRb l++zI x
 | [],x=>by
  show zI x++ByteArray.empty=ByteArray.empty++zI x
  rw [ByteArray.append_empty,ByteArray.empty_append]
 | y::l,x=>by
  show zI y++zRb (l++ [x])=zI y++zRb l++zI x
  rw [zJs l x,ByteArray.append_assoc]
def ListSt (w0 wr:World) (cb bx nb:Nat) (s:ByteArray) (bad1:Bool) (l:List ByteArray) (k:Nat) (s':ByteArray) (b':Bool):Prop:=
 (k=0∨bad1=false)∧b'=(bad1 || !((l.take k).all fun x=>okT x 100))∧(b'=false→s'=s++zM l.length++zRb (l.take k)∧s'.size≤s.size+10+110 * k)∧s'.size≤2000000000000000∧
 jQ wr cb s' b'∧zNj wr bx cb∧wr.heap[nb]?=some (.cells #[.int .i64 (l.length:Int)] 3 (0,0))∧Fr (fun i=>i=cb) w0 wr
theorem zRd (h:jQ w cb s bad) (tv:Value) (l:List ByteArray) (hx:w.cell? ⟨xb,19,none⟩=some tv) (hl:xS K w tv l) (hK:¬K cb) (bx:Nat) (hb:zNj w bx cb) (hbn:bx≠cb) (hne:xb≠cb) (hs:s.size≤1600000000000000):
  Calls Tryz.prog 124 #[.pointer (some ⟨cb,0,none⟩),.pointer (some ⟨xb,19,none⟩),.int .i64 20,.func (.func 125) #[] #[.pointer (some ⟨bx,0,none⟩)]] w (CodIf w cb (s++zRc l) (bad || !zOa l)):=by
 have hcb:=zA h;have hbx:=zA hb;obtain ⟨oa,cap,rfl,hml,-⟩:=id hl;unfold maxLen at hml;have hwf:(Lit.int .i64 (l.length:Int)).wf=true:=by simp [Lit.wf,IntKind.min,IntKind.max,IntKind.signed,IntKind.bits]; omega
 have f0:=(Fr.same w).alloc (.cells #[.int .i64 (l.length:Int)] 3);have x0:=zC w (.cells #[.int .i64 (l.length:Int)] 3);have CW:=zz (jg (h.old f0) ⟨w.heap.size,0,none⟩ l.length 0 20 hwf ((zB x0 0).trans rfl) (by show w.heap.size≠cb; omega) (by omega));have PS:=zz (zb hwf);have X0:=zz x0;have F0:=zz f0;have B0:=zz (hb.fr f0 fun h=>h);have LW:=zz hl;have HX:=zz hx;clear f0 x0 h hb hl hwf;go_enter Tryz.func124,Tryz.ntmps124
 go_wp2_with fail
 generalize (w.alloc (.cells #[.int .i64 (l.length:Int)] 3))=w0 at *;clear hx;refine CW.out.mono ?_;rintro e w1 ⟨rfl,h1,f1⟩;have d1:=fun j=>zB h1 j
 have F1:=zz ((F0.out.mono (S':=fun i=>i=cb) fun _ h=>h.elim).trans f1 fun _ h=>.inl h);have L1:=zz (show ListSt w w1 cb bx w.heap.size s (bad || !okN l.length 0 20) l 0 (s++zM l.length) (bad || !okN l.length 0 20) from
  ⟨.inl rfl,by simp,fun _=>⟨by show _=_++ByteArray.empty; rw [ByteArray.append_empty],by rw [ByteArray.size_append]; have:=PS.out; omega⟩,by rw [ByteArray.size_append]; have:=PS.out; omega,h1,B0.out.fr f1 hbn,(f1.block _ (zA X0.out) (by omega)).trans X0.out,F1.out⟩)
 have BD:=zz (show (bad || !zOa l)=((bad || !okN l.length 0 20) || !(l.all fun x=>okT x 100)) by unfold zOa; cases bad <;> simp);have B20:=zz (show (bad || !okN l.length 0 20)=false→l.length≤20 by intro h; cases bad <;> simp [okN] at h; omega);clear f1 h1 CW X0 F0 F1 B0;go_wp2_with fail
 clear d1;obtain ⟨bad1,hbad1⟩:∃b,b=(bad || !okN l.length 0 20):=⟨_,rfl⟩;rw [←hbad1] at L1 BD B20;clear hbad1;obtain ⟨nb,hnb⟩:∃b,b=w.heap.size:=⟨_,rfl⟩;have HNB:=zz (show nb≠cb by omega);rw [←hnb] at L1 ⊢;clear hnb;go_loopw [9] (fun i wr=>∃(k:Nat) (s':ByteArray) (b':Bool),i=.int .i64 k∧k≤l.length∧ListSt w wr cb bx nb s bad1 l k s' b') (fun i _=>l.length - (intOf i).toNat)
 case atStart=>exact ⟨0,_,_,rfl,Nat.zero_le _,L1.out⟩
 case round=>
  obtain ⟨k,s',b',rfl,hk,hS⟩:=hrel;obtain ⟨hk0,hb',hs',hsz,hC,hB,hN,hF⟩:=hS;have SS:=zz (And.intro hk0 (And.intro hb' (And.intro hs' hsz)));have CC:=zz hC;have BB:=zz hB;have NN:=zz hN;have FF:=zz hF;have dd:=zB hC;have dn:=zB hN 0;clear hk0 hb' hs' hsz hC hB hN hF;rcases Nat.lt_or_ge k l.length with hlt | hge
  ·cases b' with
   | true=>
    go_wp2_with fail
    go_end0
    have e:(bad || !zOa l)=true:=by
     have h1:=SS.out.2.1;rw [BD.out];cases hb1:bad1 with
     | true=>rfl
     | false=>
      rw [hb1] at h1;simp only [Bool.false_or] at h1 ⊢;have h2:((l.take k).all fun x=>okT x 100)=false:=by simpa using h1.symm
      have h3:(l.all fun x=>okT x 100)=false:=by
       cases h4:l.all fun x=>okT x 100 with
       | false=>rfl
       | true=>
        rw [List.all_eq_true] at h4
        have:((l.take k).all fun x=>okT x 100)=true:=List.all_eq_true.2 fun x hx=>h4 x (List.mem_of_mem_take hx)
        rw [this] at h2;cases h2
      rw [h3];rfl
    rw [e];exact ⟨rfl,⟨s',CC.out,(fun h=>by cases h),by have:=SS.out.2.2.2; omega⟩,FF.out⟩
   | false=>
    obtain ⟨t,ht⟩:=zH hlt;have hxx:=FF.out.cell HX.out (show ¬xb=cb from hne);obtain ⟨a,rfl,hc,hts⟩:=(LW.out.fr FF.out fun i hi e=>hK (e ▸ hi)).at ht;have fa:=(Fr.same wr).alloc (.cells #[.string t] 9);have xa:=zC wr (.cells #[.string t] 9);have hwr:=zA CC.out;have sz:=(SS.out.2.2.1 rfl).2;have hbad1:bad1=false:=by
     have h1:=SS.out.2.1;cases hb1:bad1 with
     | false=>rfl
     | true=>rw [hb1] at h1; cases h1
    have h20:=B20.out hbad1;have TW:=zz (zWw (CC.out.old fa) bx (BB.out.fr fa fun h=>h) ⟨wr.heap.size,0,none⟩ t hts ((zB xa 0).trans rfl) (by show wr.heap.size≠cb; omega) (by omega));have HT:=zz ht;have HB1:=zz hbad1;have FA:=zz (FF.out.trans fa fun _ h=>h.elim);have BA:=zz (BB.out.fr fa fun h=>h);have NA:=zz (blk NN.out fa fun h=>h);have SZ:=zz sz;have HTS:=zz hts;clear fa xa ht hbad1 sz hts;go_wp2_with fail
    refine TW.out.mono ?_;rintro e w4 ⟨rfl,h4,f4⟩;have H4:=zz h4;have F4:=zz (FA.out.trans f4 fun _ h=>.inl h);have B4:=zz (BA.out.fr f4 hbn);have N4:=zz (blk NA.out f4 HNB.out);clear h4 f4 TW dd dn;go_wp2_with fail
    go_roundw
    case rel=>
     have hsp:=xt (show t.size≤1000000000000000000 by have:=HTS.out; omega);have htk:l.take (k+1)=l.take k++ [t]:=by rw [List.take_add_one,HT.out]; rfl
     refine ⟨k+1,s'++zI t,_,by go_num,by omega,.inr HB1.out,?_,?_,?_,H4.out,B4.out,N4.out,F4.out⟩
     ·have h1:=SS.out.2.1
      rw [HB1.out] at h1 ⊢;simp only [Bool.false_or] at h1 ⊢;have ht1:((l.take k).all fun x=>okT x 100)=true:=by
       cases h5:((l.take k).all fun x=>okT x 100) with
       | true=>rfl
       | false=>rw [h5] at h1; cases h1
      rw [htk,List.all_append,ht1];simp
     ·intro hf
      obtain ⟨e1,e2⟩:=SS.out.2.2.1 trivial;have ho:(t.size:Int)≤100:=by simpa [okT] using hf
      refine ⟨?_,?_⟩
      ·rw [htk,zJs,e1,ByteArray.append_assoc]
      ·rw [ByteArray.size_append]; omega
     ·rw [ByteArray.size_append]; have:=SZ.out; have:=HTS.out; omega
    case measure=>simp [intOf]; omega
  ·obtain rfl:k=l.length:=by omega
   go_wp2_with fail
   go_end0
   have e:b'=(bad || !zOa l):=by rw [BD.out,SS.out.2.1,List.take_length]
   refine ⟨rfl,⟨s',by rw [←e]; exact CC.out,fun hf=>?_,by have:=SS.out.2.2.2; omega⟩,FF.out⟩;rw [←e] at hf
   have:=(SS.out.2.2.1 hf).1
   rw [this,List.take_length];unfold zRc;rw [ByteArray.append_assoc]
end
end Go.Proofs.YtfdhofabgdkkkaaGreatDoor
