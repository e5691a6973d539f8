/- A part of the proof that what the machine is told keeps its bounds. -/
import Derived.Test.YtfdhofabgdkkkaaGreatDoorJ47
set_option maxHeartbeats 128000000
set_option maxRecDepth 100000
namespace Go.Proofs.YtfdhofabgdkkkaaGreatDoor
open Lib renaming hid→zz
open Go.RowKit Go.Fm Go.BigFrame Go.Shelf Go.Maps
set_option linter.unusedVariables false
set_option linter.unusedSimpArgs false
section
variable {w w':World} {S:Nat→Prop}
theorem zDj {L:List (zY × zR)} (hn:(L.map (·.1)).Nodup) {p:zY} {d:zR} (h:(p,d)∈L):zt L p=some d:=by
 unfold zt;cases hf:L.find? fun x=>decide (x.1=p) with
 | none=>
  have:=List.find?_eq_none.1 hf _ h
  simp at this
 | some r=>
  have h1:=List.find?_some hf;have h2:=List.mem_of_find?_eq_some hf;have e:=zFs hn h2 h (by simpa using h1);rw [e];rfl
theorem zSl {L:List (zY × zR)} {p p0:zY} (hp:p≠p0):zt (L.filter fun x=>x.1≠p0) p=zt L p:=by
 unfold zt;rw [List.find?_filter];have e:(fun a:zY × zR=>decide (decide (a.1≠p0)=true∧decide (a.1=p)=true))=fun a=>decide (a.1=p):=by
  funext a
  by_cases e:a.1=p
  ·rw [e]; simp [hp]
  ·simp [e]
 rw [e]
theorem zCb {L:List (zY × zR)} {i:Int} {p:zY} (hp:p.id≠i):∀k,zt (zIa L i k) p=zt L p
 | 0=>rfl
 | k+1=>(zSl (fun e=>hp (by rw [e]))).trans (zCb hp k)
theorem MI.made {m:zG} {c:zO} {k:Nat} (h:MI w m c k) {q:Req} (hn2:q.name.size≤100) (hc1:1≤q.count) (hc2:q.count≤16) (hg:zk m.TL q.name=none) (hl:m.TL.length < 20) {e:Ending} (hp:zAl w m q.name q.count e w'):
  ∃m':zG,MI w' m' c (k+1)∧m'.mb=m.mb∧∀nm ix d,zU m nm ix=some d→zU m' nm ix=some d:=by
 obtain ⟨-,m',ha,hmb,hTL,htn,hnx,hcv,hnew,hold,hB,hT,hlen,hf⟩:=hp;have idlt:∀r∈m.TL,jm r.2 < m.tn:=fun r hr=>by
  obtain ⟨i,p,he,h0,h1⟩:=h.a.ids r hr;rw [he,jM];exact h1
 have low:=h.tn;refine ⟨m',⟨ha,by rw [hcv]; exact h.cv,(h.crd.fr hf fun i hi hb=>h.off i hi (.inl hb)).more (by omega),fun i hi hA=>?_,fun x hx=>?_,by have:=h.ll; omega,by rw [htn]; omega,by rw [hnx]; have:=h.nx; omega,?_,fun r hr=>?_,fun r hr s hs he=>?_⟩,hmb,fun nm ix d hd=>?_⟩
 ·rcases hA with hA | ⟨x,hx,hA⟩
  ·exact h.off i hi (.inl (hB i hA))
  ·rcases hT x hx i hA with ⟨y,hy,hyi⟩ | h1
   ·exact h.off i hi (.inr ⟨y,hy,hyi⟩)
   ·have:=h.crd.Tlow hi; omega
 ·have hx1:=zDj ha.keys (p:=x.1) (d:=x.2) hx
  by_cases hr:x.1.id=m.tn∧0≤x.1.ix∧x.1.ix < q.count
  ·obtain ⟨d,hd,hN⟩:=hnew x.1.ix hr.2.1 hr.2.2
   have hpl:(⟨m.tn,x.1.ix⟩:zY)=x.1:=by rw [←hr.1]
   rw [hpl,hx1] at hd;obtain rfl:=Option.some.inj hd;exact ⟨⟨fun b hb=>(by rw [hN.bats] at hb; cases hb),by rw [hN.bats]; exact Nat.zero_le _,by rw [hN.n]; exact Nat.zero_le _,by rw [hN.st,hN.en]; omega,by rw [hN.en]; omega⟩,hr.2.1,by omega⟩
  ·rw [hold x.1 hr] at hx1
   have:=h.part _ (jV hx1)
   exact ⟨this.1.more,this.2⟩
 ·rw [hTL]
  unfold jb;rw [List.length_cons]
  have:=List.length_filter_le (fun r:ByteArray × Value=>decide (r.1≠q.name)) m.TL
  omega
 ·rw [hTL] at hr
  rcases List.mem_cons.1 hr with rfl | hr
  ·exact hn2
  ·exact h.tz r (List.mem_filter.1 hr).1
 ·rw [hTL] at hr hs
  rcases List.mem_cons.1 hr with rfl | hr
  ·rcases List.mem_cons.1 hs with rfl | hs
   ·rfl
   ·have:=idlt s (List.mem_filter.1 hs).1
    rw [←he,jM] at this;omega
  ·rcases List.mem_cons.1 hs with rfl | hs
   ·have:=idlt r (List.mem_filter.1 hr).1
    rw [he,jM] at this;omega
   ·exact h.uid r (List.mem_filter.1 hr).1 s (List.mem_filter.1 hs).1 he
 ·obtain ⟨p,hpm,hix,hfp,v,hv,hid⟩:=yU hd
  have hne:nm≠q.name:=fun e=>by rw [e,hg] at hv; cases hv
  have hv2:zk m'.TL nm=some v:=by rw [hTL,va,if_neg hne]; exact hv
  have hlt:=idlt _ (xH hv);unfold zU;rw [hv2];have hpe:(⟨jm v,ix⟩:zY)=p:=by rw [←hid,←hix]
  show zt m'.L ⟨jm v,ix⟩=some d
  rw [hpe,hold p (fun hh=>by
    have h9:p.id < m.tn:=by rw [hid]; exact hlt
    omega)]
  exact hfp
theorem MI.gone {m:zG} {c:zO} {k:Nat} (h:MI w m c k) {name:ByteArray} {e:Ending} (hp:zMe m c (2 * k) name w e w'):
  ∃(m':zG) (c':zO),MI w' m' c' (k+1)∧m'.mb=m.mb∧∀nm ix d,nm≠name→zU m nm ix=some d→zU m' nm ix=some d:=by
 rcases hp with ⟨-,-,hf⟩ | ⟨i,p,c',hg,-,ha,hc,rfl,hf⟩
 ·exact ⟨m,c,h.idle hf,rfl,fun nm ix d _ hd=>hd⟩
 ·refine ⟨{ m with L:=zIa m.L i 16,TL:=vZ m.TL name }, { c with O:=vY c.O (fun k=>decide (k.t=name)) },⟨ha,h.cv,by rw [zMg]; exact hc,fun j hj hA=>?_,fun x hx=>?_,?_,by have:=h.tn; show m.tn≤_; omega,by have:=h.nx; show m.next≤_; omega,Nat.le_trans (List.length_filter_le _ _) h.tl,fun r hr=>h.tz r (List.mem_filter.1 hr).1,fun r hr s hs he=>h.uid r (List.mem_filter.1 hr).1 s (List.mem_filter.1 hs).1 he⟩,rfl,fun nm ix d hne hd=>?_⟩
  ·refine h.off j hj ?_
   rcases hA with hA | ⟨x,hx,hA⟩
   ·exact .inl hA
   ·exact .inr ⟨x,(yg m.L i 16).subset hx,hA⟩
  ·have:=h.part x ((yg m.L i 16).subset hx)
   exact ⟨this.1.more,this.2⟩
  ·have h9:=Nat.le_trans (yg m.L i 16).length_le h.ll
   exact Nat.le_trans h9 (Nat.mul_le_mul_left 16 (Nat.le_succ k))
  ·obtain ⟨pl,hpm,hix,hfp,v,hv,hid⟩:=yU hd
   have hv2:zk (vZ m.TL name) nm=some v:=by rw [zHx,if_neg hne]; exact hv
   have hidn:pl.id≠i:=fun e=>hne (h.uid _ (xH hv) _ (xH hg) (by show jm v=jm (yq i p); rw [jM,←hid,e]))
   unfold zU;dsimp only;rw [hv2]
   show zt (zIa m.L i 16) ⟨jm v,ix⟩=some d
   have hpe:(⟨jm v,ix⟩:zY)=pl:=by rw [←hid,←hix]
   rw [hpe,zCb hidn];exact hfp
theorem uP.keep {q:Req} {m m':zG} (h:∀nm ix d,zU m nm ix=some d→zU m' nm ix=some d):uP q m m':=fun nm ix d hd=>.inr ⟨d,h nm ix d hd,Int.le_refl _,Int.le_refl _,fun _=>⟨rfl,rfl,rfl⟩⟩
theorem uP.turn {m:zG} {c:zO} {k:Nat} (h:MI w m c k) {q:Req} {p:zY} {d d':zR} (hix:p.ix=q.index) (hfp:zt m.L p=some d) {v:Value} (hv:zk m.TL q.name=some v) (hid:p.id=jm v) (h1:d.st≤d'.st) (h2:d.en≤d'.en):uP q m { m with L:=vG m.L p d' } :=by
 intro nm ix x hx;obtain ⟨p2,hpm,hix2,hfp2,v2,hv2,hid2⟩:=yU hx;have hf:zU { m with L:=vG m.L p d' } nm ix=if p2=p then some d' else zt m.L p2:=by
  unfold zU;dsimp only;rw [hv2]
  show zt (vG m.L p d') ⟨jm v2,ix⟩=_
  have hpe:(⟨jm v2,ix⟩:zY)=p2:=by rw [←hid2,←hix2]
  rw [hpe];exact zAs hfp p2
 by_cases e:p2=p
 ·rw [if_pos e] at hf
  subst e;obtain rfl:=Option.some.inj (hfp.symm.trans hfp2);refine .inr ⟨d',hf,h1,h2,fun hne=>?_⟩
  exfalso
  rcases hne with hne | hne
  ·exact hne (h.uid _ (xH hv) _ (xH hv2) (hid.symm.trans hid2))
  ·exact hne (hix.symm.trans hix2)
 ·rw [if_neg e] at hf
  exact .inr ⟨x,hf.trans hfp2,Int.le_refl _,Int.le_refl _,fun _=>⟨rfl,rfl,rfl⟩⟩
end
section
variable {w w':World} {S K:Nat→Prop}
def zIg (m:zG) (c:zO) (i:Nat):Prop:=m.A i∨c.T i
def MFr (m:zG) (c:zO) (w w':World) (m':zG) (c':zO):Prop:=Fr (zIg m c) w w'∧∀i,zIg m' c' i→zIg m c i∨w.heap.size≤i
def xm (m:zG) (c:zO) (k:Nat) (q:Req) (w:World) (e:Ending) (w':World):Prop:=(∃v,e=.returned v)∧∃(m':zG) (c':zO),MI w' m' c' (k+1)∧m'.mb=m.mb∧uP q m m'∧MFr m c w w' m' c'
theorem MFr.step {m:zG} {c c':zO} {N:Nat} (st:zX c N w w' c'):MFr m c w w' m c':=
 ⟨st.2.2.2.mono fun i h=>.inl (.inr h),fun i h=>h.elim (fun h=>.inl (.inl h)) fun h=>(st.2.2.1 i h).imp (fun h=>.inr h) id⟩
theorem kV {m:zG} {c c':zO} {k:Nat} (h:MI w m c k) (q:Req) {e:Ending} {v:Value} (he:e=.returned v) (st:zX c (2 * k) w w' c'):xm m c k q w e w':=
 ⟨⟨v,he⟩,m,c',h.step st,rfl,uP.same q m,MFr.step st⟩
theorem zMh {c:zO} {N:Nat} (hc:xd w c N) (R:Int→Int→zO→Prop):vC (fun w4 e w5=>zHz c N w4 R e w5) w:=fun w4 e w5 hf ⟨er,a,c',he,st,_⟩=>
 ⟨⟨er,a,0,0,0,0,0,.slice none 0 0,.slice none 0 0,.slice none 0 0,he,rfl,rfl,rfl⟩,fun b h1 h2=>st.2.2.2.block b h2 fun h=>by have:=hc.Tlow h; omega⟩
theorem out8_ok {c:zO} {N:Nat} (hc:xd w c N) (R:Int→Int→Int→Int→zO→Prop):vC (fun w4 e w5=>Out8 c N w4 R e w5) w:=fun w4 e w5 hf ⟨er,x,y,z,c',he,st,_⟩=>
 ⟨⟨er,0,0,0,x,y,z,.slice none 0 0,.slice none 0 0,.slice none 0 0,he,rfl,rfl,rfl⟩,fun b h1 h2=>st.2.2.2.block b h2 fun h=>by have:=hc.Tlow h; omega⟩
theorem out9_ok {c:zO} {N:Nat} (hc:xd w c N) (R:Int→List (ByteArray × Int)→zO→Prop):vC (fun w4 e w5=>Out9 c N w4 R e w5) w:=fun w4 e w5 hf ⟨er,rv,pl,c',he,hrv,st,_⟩=>by
 obtain ⟨oa,cap,rfl,-⟩:=hrv;exact ⟨⟨er,0,0,0,0,0,0,.slice none 0 0,.slice none 0 0,_,he,rfl,rfl,rfl⟩,fun b h1 h2=>st.2.2.2.block b h2 fun h=>by have:=hc.Tlow h; omega⟩
theorem KeyOK_of {q:Req} (h:ReqBk q) (hw:zBf q):yf ⟨q.group,q.name,q.index⟩:=⟨by have:=h.group; show q.group.size≤maxLen; unfold maxLen; omega,by have:=h.name; show q.name.size≤maxLen; unfold maxLen; omega,hw.index⟩
theorem do_mi10 {m:zG} {c:zO} {k:Nat} (h:MI w m c k) (hk9:k≤400000) (q:Req) (rv kv tv:Value) (K:Nat→Prop) (ft lt:ByteArray) (fok lok:Bool) (hE:xM w q rv kv tv K ft lt fok lok) (hsz:(yQ ByteArray.empty q ft lt).size≤2000000000000000) (he:zy q ft lt fok lok=true) (hk:q.kind=10) (now:Int):
  Calls Tryz.prog 12 #[.pointer (some ⟨m.mb,0,none⟩),.agg (zT q rv kv tv),.int .i64 now] w (xm m c k q w):=by
 have B:=(vD he).1;have hg:q.group.size≤maxLen:=by have:=B.group; unfold maxLen; omega
 refine (zAk h.a q rv kv tv K ft lt fok lok hE hsz he now (.inr (.inr (.inl ⟨hk,rfl⟩))) _ (zMh h.crd _) fun w4 hf=>zSb (h.a.old hf) (h.crd.old hf) h.cv (by omega) q rv kv tv hk hg B.member now).mono ?_;rintro e w' ⟨w4,w5,rb,hf4,hr1,hr2,⟨er,a,c',hee,st,-⟩,hf5⟩;exact kV h q hee (st.out hf4 h.crd hr1 hr2 hf5)
theorem do_mi11 {m:zG} {c:zO} {k:Nat} (h:MI w m c k) (hk9:k≤400000) (q:Req) (rv kv tv:Value) (K:Nat→Prop) (ft lt:ByteArray) (fok lok:Bool) (hE:xM w q rv kv tv K ft lt fok lok) (hsz:(yQ ByteArray.empty q ft lt).size≤2000000000000000) (he:zy q ft lt fok lok=true) (hk:q.kind=11) (now:Int):
  Calls Tryz.prog 12 #[.pointer (some ⟨m.mb,0,none⟩),.agg (zT q rv kv tv),.int .i64 now] w (xm m c k q w):=by
 have B:=(vD he).1;have hg:q.group.size≤maxLen:=by have:=B.group; unfold maxLen; omega
 refine (zAk h.a q rv kv tv K ft lt fok lok hE hsz he now (.inr (.inr (.inr (.inl ⟨hk,rfl⟩)))) _ (zMh h.crd _) fun w4 hf=>zPl (h.a.old hf) (h.crd.old hf) h.cv (by omega) q rv kv tv hk hg B.member now).mono ?_;rintro e w' ⟨w4,w5,rb,hf4,hr1,hr2,⟨er,a,c',hee,st,-⟩,hf5⟩;exact kV h q hee (st.out hf4 h.crd hr1 hr2 hf5)
theorem do_mi12 {m:zG} {c:zO} {k:Nat} (h:MI w m c k) (hk9:k≤400000) (q:Req) (rv kv tv:Value) (K:Nat→Prop) (ft lt:ByteArray) (fok lok:Bool) (hE:xM w q rv kv tv K ft lt fok lok) (hsz:(yQ ByteArray.empty q ft lt).size≤2000000000000000) (he:zy q ft lt fok lok=true) (hk:q.kind=12) {d:zR} (hd:zU m q.name q.index=some d) (now:Int):
  Calls Tryz.prog 12 #[.pointer (some ⟨m.mb,0,none⟩),.agg (zT q rv kv tv),.int .i64 now] w (xm m c k q w):=by
 have B:=(vD he).1;have hg:q.group.size≤maxLen:=by have:=B.group; unfold maxLen; omega
 refine (zAj h.a q rv kv tv K ft lt fok lok hE hsz he hd now (.inr (.inr (.inr (.inr ⟨hk,rfl,rfl⟩)))) _ (zMh h.crd _) fun w4 hf=>zMd (h.a.old hf) (h.crd.old hf) h.cv (by omega) q rv kv tv hk hg B.member now).mono ?_;rintro e w' ⟨w4,w5,rb,hf4,hr1,hr2,⟨er,a,c',hee,st,-⟩,hf5⟩;exact kV h q hee (st.out hf4 h.crd hr1 hr2 hf5)
theorem do_mi13 {m:zG} {c:zO} {k:Nat} (h:MI w m c k) (hk9:k≤400000) (q:Req) (rv kv tv:Value) (K:Nat→Prop) (ft lt:ByteArray) (fok lok:Bool) (hE:xM w q rv kv tv K ft lt fok lok) (hsz:(yQ ByteArray.empty q ft lt).size≤2000000000000000) (he:zy q ft lt fok lok=true) (hk:q.kind=13) (now:Int):
  Calls Tryz.prog 12 #[.pointer (some ⟨m.mb,0,none⟩),.agg (zT q rv kv tv),.int .i64 now] w (xm m c k q w):=by
 have B:=(vD he).1;have hg:q.group.size≤maxLen:=by have:=B.group; unfold maxLen; omega
 refine (zAk h.a q rv kv tv K ft lt fok lok hE hsz he now (.inr (.inr (.inr (.inr ⟨hk,rfl⟩)))) _ (zMh h.crd _) fun w4 hf=>zYp (h.a.old hf) (h.crd.old hf) h.cv (by omega) q rv kv tv hk (KeyOK_of B hE.wf) hg B.member now).mono ?_;rintro e w' ⟨w4,w5,rb,hf4,hr1,hr2,⟨er,a,c',hee,st,-⟩,hf5⟩;exact kV h q hee (st.out hf4 h.crd hr1 hr2 hf5)
theorem do_mi9 {m:zG} {c:zO} {k:Nat} (h:MI w m c k) (hk9:k≤400000) (q:Req) (rv kv tv:Value) (K:Nat→Prop) (ft lt:ByteArray) (fok lok:Bool) (hE:xM w q rv kv tv K ft lt fok lok) (hsz:(yQ ByteArray.empty q ft lt).size≤2000000000000000) (he:zy q ft lt fok lok=true) (hk:q.kind=9) (now:Int):
  Calls Tryz.prog 12 #[.pointer (some ⟨m.mb,0,none⟩),.agg (zT q rv kv tv),.int .i64 now] w (xm m c k q w):=by
 have B:=(vD he).1;have hg:q.group.size≤maxLen:=by have:=B.group; unfold maxLen; omega
 refine (zAk h.a q rv kv tv K ft lt fok lok hE hsz he now (.inr (.inl ⟨hk,rfl⟩)) _ (out9_ok h.crd _) fun w4 hf=>zSc (h.a.old hf) (h.crd.old hf) h.cv (by omega) q rv kv tv hk h.tl h.tz hg B.member now).mono ?_;rintro e w' ⟨w4,w5,rb,hf4,hr1,hr2,⟨er,rv9,pl,c',hee,hrv,st,-⟩,hf5⟩;exact kV h q hee (st.out hf4 h.crd hr1 hr2 hf5)
theorem do_mi8 {m:zG} {c:zO} {k:Nat} (h:MI w m c k) (hk9:k≤400000) (q:Req) (rv kv tv:Value) (K:Nat→Prop) (ft lt:ByteArray) (fok lok:Bool) (hE:xM w q rv kv tv K ft lt fok lok) (hsz:(yQ ByteArray.empty q ft lt).size≤2000000000000000) (he:zy q ft lt fok lok=true) (hk:q.kind=8) (tl:List ByteArray) (htl:xS S w tv tl) (hS:∀i,S i→i < w.heap.size∧¬c.T i) (hl:tl.length≤1000) (now:Int):
  Calls Tryz.prog 12 #[.pointer (some ⟨m.mb,0,none⟩),.agg (zT q rv kv tv),.int .i64 now] w (xm m c k q w):=by
 have B:=(vD he).1;have hg:q.group.size≤maxLen:=by have:=B.group; unfold maxLen; omega
 refine (zAk h.a q rv kv tv K ft lt fok lok hE hsz he now (.inl ⟨hk,rfl⟩) _ (out8_ok h.crd _) fun w4 hf=>zSd (h.a.old hf) (h.crd.old hf) h.cv (by omega) q rv kv tv hk B.group tl (htl.old hf) (fun i hi=>⟨Nat.lt_of_lt_of_le (hS i hi).1 hf.size,(hS i hi).2⟩) hl hg B.member now).mono ?_;rintro e w' ⟨w4,w5,rb,hf4,hr1,hr2,⟨er,x,y,z,c',hee,st,-⟩,hf5⟩;exact kV h q hee (st.out hf4 h.crd hr1 hr2 hf5)
theorem fr_rb {m:zG} {c:zO} {k:Nat} (h:MI w m c k) {rb:Nat} (hr:w.heap.size≤rb) {w4 w5:World} (hf4:Fr (fun _=>False) w w4) (hf:Fr (fun _=>False) w4 w5) (hf5:Fr (fun i=>i=rb) w5 w'):Fr (fun _=>False) w w':=(hf4.tr hf).trans hf5 fun i e=>.inr (by omega)
theorem jK {m:zG} {c:zO} {k:Nat} (h:MI w m c k) (q:Req) {e:Ending} {v:Value} (he:e=.returned v) (hf:Fr (fun _=>False) w w'):xm m c k q w e w':=kV h q he (zX.same h.crd hf)
end
section
variable {w w':World} {S K:Nat→Prop}
theorem zSm {d:zR} (h:jT w d) (hb:∀b∈d.bats,xO b) (hl:d.bats.length≤400000) (q:Req) (rv kv tv:Value):Calls Tryz.prog 39 #[.pointer (some ⟨d.xb,0,none⟩),.agg (zT q rv kv tv)] w (zPk d q.from' w):=by
 obtain ⟨w1,hw1,f1,x0,x1⟩:=zBk w q rv kv tv;have F1:=zz f1;have X1:=zz x1;have P1:=zz (h.old f1);have BR:=zz ((za.reads (K':=fun i=>i < w.heap.size) h.own (fun _ _ h=>h) fun _ _ h=>h).old f1);have HB:=zz hb;unfold zT at x0 hw1 ⊢;unfold yE at hw1;have X0:=zz x0;have d5:=zB P1.out.b 2;obtain ⟨ob,cb,hbv⟩:=jS P1.out.own;rw [show (#[.int .i64 d.st,.int .i64 d.en,d.bv,.pointer (some ⟨d.pb,0,none⟩)]:Array Value)[2]?=some d.bv from rfl,hbv] at d5;rw [hbv] at BR;rw [hw1] at d5;clear h f1 x0 x1 hb hbv;go_enter Tryz.func39,Tryz.ntmps39
 go_wp2_with fail
 rw [←hw1];clear d5 hw1;go_loopw [14] (fun i wr=>∃k:Nat,i=.int .i64 k∧k≤d.bats.length∧vu d.st q.from' (d.bats.drop k)=vu d.st q.from' d.bats∧Fr (fun _=>False) w1 wr) (fun i _=>d.bats.length - (intOf i).toNat)
 case atStart=>exact ⟨0,rfl,Nat.zero_le _,rfl,Fr.same _⟩
 case round=>
  obtain ⟨k,rfl,hk,hs,hf⟩:=hrel;have FF:=zz hf;have HS:=zz hs;clear hf hs;rcases Nat.lt_or_ge k d.bats.length with hlt | hge
  ·obtain ⟨x,hx⟩:=zH hlt
   obtain ⟨oa,cap,a,rvx,hsl,rfl,hab,hat,hrr⟩:=zNn (BR.out.old FF.out) hx;injection hsl with e1 e2 e3
   subst e1 e3;obtain ⟨ra,rc,rfl,-⟩:=id hrr;have hok:=HB.out x (List.mem_of_getElem? hx);have hdrop:d.bats.drop k=x::d.bats.drop (k+1):=by have h9:=List.drop_eq_getElem_cons hlt; rw [h9,(List.getElem?_eq_some_iff.1 hx).2]
   have HS1:=zz (show vu d.st q.from' (x::d.bats.drop (k+1))=vu d.st q.from' d.bats by rw [←hdrop]; exact HS.out);obtain ⟨c0,c1,c2,c3,c4,c5⟩:=hat;have fa:=(Fr.same wr).alloc (.cells #[.int .i64 x.base,.int .i64 x.span,.int .i64 x.prod,.int .i64 x.epoch,.int .i64 x.seq,.slice ra x.recs.length rc] 35);have xa:=zC wr (.cells #[.int .i64 x.base,.int .i64 x.span,.int .i64 x.prod,.int .i64 x.epoch,.int .i64 x.seq,.slice ra x.recs.length rc] 35);have XA:=zz xa;have FA:=zz (FF.out.tr fa);have RA:=zz (hrr.old fa);have PA:=zz (P1.out.old FA.out);have hrl:=hok.len;have b0:=hok.base0;have b1:=hok.base1;have s0:=hok.span0;have s1:=hok.span1;clear hx hrr fa xa hdrop hok;go_wp2_with fail
   generalize (wr.alloc (.cells #[.int .i64 x.base,.int .i64 x.span,.int .i64 x.prod,.int .i64 x.epoch,.int .i64 x.seq,.slice ra x.recs.length rc] 35))=wa at *;generalize wr.heap.size=gb at *;have y0:∀y:Lcl.InS (fun w'=>Fr (fun _=>False) wa w'),y.w.cell? ⟨gb,0,none⟩=some (.int .i64 x.base):=fun y=>y.h.cel ((zB XA.out 0).trans rfl)
   have y1:∀y:Lcl.InS (fun w'=>Fr (fun _=>False) wa w'),y.w.cell? ⟨gb,1,none⟩=some (.int .i64 x.span):=fun y=>y.h.cel ((zB XA.out 1).trans rfl)
   have y2:∀y:Lcl.InS (fun w'=>Fr (fun _=>False) wa w'),y.w.cell? ⟨d.xb,0,none⟩=some (.int .i64 d.st):=fun y=>y.h.cel ((zB PA.out.b 0).trans rfl)
   have FD:=zz (Fr.same wa).drew;clear c0 c1 c2 c3 c4 c5;refine Lcl.wp_region_calm (by kernel_rfl) [(true,[0,2,5,6,7]),(false,[1,3,8]),(true,[4,9])] #[0,1,0,4,15,0,32,96,224,511] [0,1,2,3,4,5,6,7,8] 0 #[true,true,true,true,true,true,true,true,true,true] (by kernel_rfl) (by kernel_rfl) (by kernel_rfl) (fun w'=>Fr (fun _=>False) wa w') (Fr.same wa).drew (fun d c a v w h=>by cases d <;> exact h) ?_;simp only [Lcl.opsOf,List.map_cons,List.map_nil,List.getElem?_toArray,List.getElem?_cons_succ,List.getElem?_cons_zero,Option.getD_some];refine Lcl.wpCalm_t ?_
   repeat (go_big_quiet_step (rfl))
   refine wpQuiet_nil ?_;refine Lcl.wpCalm_f ?_
   repeat (go_big_quiet_step (rfl))
   refine wpQuiet_nil ?_;refine Lcl.wpCalm_t ?_
   repeat (go_big_quiet_step (rfl))
   refine wpQuiet_nil ?_;refine Lcl.wpCalm_nil ?_;clear y0 y1 y2;generalize wa.drew=wd at *;refine Lcl.wpG_run [] _ _ _ (by kernel_rfl) ?_;simp only [List.map_cons,List.map_nil,List.getElem?_toArray,List.getElem?_cons_succ,List.getElem?_cons_zero,Option.getD_some];by_cases hsk:x.base+x.span≤d.st
   ·have HS2:=zz ((show vu d.st q.from' (x::d.bats.drop (k+1))=vu d.st q.from' (d.bats.drop (k+1)) from if_pos hsk).symm.trans HS1.out)
    have F1d:=zz (FA.out.tr FD.out);go_wp2_with fail
    go_roundw
    case rel=>exact ⟨k+1,by go_num,by omega,HS2.out,F1d.out⟩
    case measure=>simp [intOf]; omega
   ·have HS2:=zz ((show vu d.st q.from' (x::d.bats.drop (k+1))=(if (x.recs.any fun r=>decide (q.from'≤r.tm))=true then some (max x.base d.st) else vu d.st q.from' (d.bats.drop (k+1))) from if_neg hsk).symm.trans HS1.out)
    have FDD:=zz (FA.out.tr FD.out);have RD:=zz (RA.out.old FD.out);have XD:=zz ((FD.out.block _ (zA XA.out) fun h=>h).trans XA.out);have dx:=fun j=>zB XD.out j
    clear RA XA PA FA FD;go_wp2_with fail
    clear dx;go_loopw [31] (fun i wr=>∃j:Nat,i=.int .i64 j∧j≤x.recs.length∧(∀(n:Nat) (r:Rec),n < j→x.recs[n]?=some r→¬q.from'≤r.tm)∧Fr (fun _=>False) wd wr) (fun i _=>x.recs.length - (intOf i).toNat)
    case atStart=>exact ⟨0,rfl,Nat.zero_le _,fun n r hn=>absurd hn (Nat.not_lt_zero _),Fr.same _⟩
    case round=>
     obtain ⟨j,rfl,hj,hall,hf2⟩:=hrel;have FE:=zz hf2;have ALL:=zz hall;have X0e:=zz (((FDD.out.tr FE.out).block _ (zA X0.out) fun h=>h).trans X0.out);clear hf2 hall;rcases Nat.lt_or_ge j x.recs.length with hlt2 | hge2
     ·obtain ⟨y,hy⟩:=zH hlt2
      obtain ⟨ra',rc',hrs,hat2⟩:=RD.out.old FE.out;injection hrs with e1 e2 e3
      subst e1 e3;obtain ⟨ar,hv,rfl,-,hra,hhr⟩:=hat2 j y hy;obtain ⟨ha,hcap,rfl,-⟩:=id hhr;obtain ⟨c0,c1,c2,c3,c4,c5,c6⟩:=hra;have fb:=(Fr.same wr).alloc (.cells #[.int .i64 y.at',.int .i64 y.tm,.bool y.bare,.string y.key,.bool y.gone,.string y.val,.slice ha y.hs.length hcap] 95);have xb:=zC wr (.cells #[.int .i64 y.at',.int .i64 y.tm,.bool y.bare,.string y.key,.bool y.gone,.string y.val,.slice ha y.hs.length hcap] 95);have XB:=zz xb;have FB:=zz fb;have X0b:=zz ((fb.block _ (zA X0e.out) fun h=>h).trans X0e.out);have HY:=zz hy;have dq:=fun j=>zB X0b.out j
      clear hy hat2 hhr fb xb;by_cases hq:q.from'≤y.tm
      ·have HR:=zz (show zKo d q.from'=max x.base d.st from by
        have h9:=HS2.out;rw [if_pos (List.any_eq_true.2 ⟨y,List.mem_of_getElem? HY.out,decide_eq_true hq⟩)] at h9;unfold zKo;rw [←h9];rfl)
       have XDb:=zz (((FE.out.tr FB.out).block _ (zA XD.out) fun h=>h).trans XD.out);have PB:=zz (P1.out.old ((FDD.out.tr FE.out).tr FB.out));have X3:=zz ((((FDD.out.tr FE.out).tr FB.out).block _ (zA X1.out) fun h=>h).trans X1.out);go_wp2_with fail
       generalize (wr.alloc (.cells #[.int .i64 y.at',.int .i64 y.tm,.bool y.bare,.string y.key,.bool y.gone,.string y.val,.slice ha y.hs.length hcap] 95))=wb at *;have y0:∀z:Lcl.InS (fun w'=>Fr (fun _=>False) wb w'),z.w.cell? ⟨gb,0,none⟩=some (.int .i64 x.base):=fun z=>z.h.cel ((zB XDb.out 0).trans rfl)
       have y1:∀z:Lcl.InS (fun w'=>Fr (fun _=>False) wb w'),z.w.cell? ⟨d.xb,0,none⟩=some (.int .i64 d.st):=fun z=>z.h.cel ((zB PB.out.b 0).trans rfl)
       have FC:=zz (Fr.same wb).drew;have FE2:=zz ((FDD.out.tr FE.out).tr FB.out);clear c0 c1 c2 c3 c4 c5 c6 dq hq;refine Lcl.wp_region_calm (by kernel_rfl) [(true,[0,2,3,4]),(false,[1,5]),(true,[6])] #[0,1,0,4,12,28,63,127,255] [0,1,2,3,4,5] 2 #[true,true,true,true,true,true,true,false,false] (by kernel_rfl) (by kernel_rfl) (by kernel_rfl) (fun w'=>Fr (fun _=>False) wb w') (Fr.same wb).drew (fun d c a v w h=>by cases d <;> exact h) ?_;simp only [Lcl.opsOf,List.map_cons,List.map_nil,List.getElem?_toArray,List.getElem?_cons_succ,List.getElem?_cons_zero,Option.getD_some];refine Lcl.wpCalm_t ?_
       repeat (go_big_quiet_step (rfl))
       refine wpQuiet_nil ?_;refine Lcl.wpCalm_f ?_
       repeat (go_big_quiet_step (rfl))
       refine wpQuiet_nil ?_;refine Lcl.wpCalm_t ?_
       repeat (go_big_quiet_step (rfl))
       refine wpQuiet_nil ?_;refine Lcl.wpCalm_nil ?_;clear y0 y1;have X3:=zz ((FC.out.block _ (zA X3.out) fun h=>h).trans X3.out);generalize wb.drew=wc at *;refine Lcl.wpG_run [7,8] _ _ _ (by kernel_rfl) ?_;simp only [List.map_cons,List.map_nil,List.getElem?_toArray,List.getElem?_cons_succ,List.getElem?_cons_zero,Option.getD_some];go_wp2_with fail
       refine (yB _ _).mono ?_;rintro e w8 ⟨rfl,hf8⟩;have X8:=(hf8.block _ (zA X3.out) fun h=>h).trans X3.out;have R9:=setRow_heap w8 (w.heap.size+1) _ (zS 0 (max x.base d.st) 0 0 0 0 0 (.slice none 0 0) (.slice none 0 0) (.slice none 0 0)) 31 (0,0) X8;have FN:=zz (zZ ((Fr.same w8).mono (S':=fun i=>i=w.heap.size+1) fun _ h=>h.elim) (g:=w.heap.size+1) (.inl rfl) (zS 0 (max x.base d.st) 0 0 0 0 0 (.slice none 0 0) (.slice none 0 0) (.slice none 0 0)));have F8:=zz hf8;clear hf8;go_wp2_with (refine zJ rfl _ _ rfl (w.heap.size+1) 0 (max x.base d.st) rfl rfl _ X8 rfl ?_)
       try simp only [Exit.inBlock,Exit.then]
       refine bodyPost_ret (results_cell_row rfl _ _ (w.heap.size+1) 31 _ (0,0) _ rfl R9 Tryz.underlying31 rfl (by kernel_rfl)) rfl ?_;exact ⟨by rw [HR.out]; rfl,(((F1.out.tr FE2.out).tr FC.out).tr F8.out).trans FN.out fun i e=>.inr (by omega)⟩
      ·go_wp2_with fail
       go_roundw
       case rel=>exact ⟨j+1,by go_num,by omega,fun n r hn hr=>by
        rcases Nat.lt_or_ge n j with h | h
        ·exact ALL.out n r h hr
        ·obtain rfl:n=j:=by omega
         obtain rfl:=Option.some.inj (HY.out.symm.trans hr);exact hq,FE.out.tr FB.out⟩
       case measure=>simp [intOf]; omega
     ·obtain rfl:j=x.recs.length:=by omega
      have HS3:=zz (show vu d.st q.from' (d.bats.drop (k+1))=vu d.st q.from' d.bats from by
       have h9:=HS2.out;rw [if_neg (fun h=>by
        obtain ⟨r,hr,hd⟩:=List.any_eq_true.1 h;obtain ⟨n,hn⟩:=List.mem_iff_getElem?.1 hr;exact ALL.out n r (List.getElem?_eq_some_iff.1 hn).1 hn (of_decide_eq_true hd))] at h9
       exact h9)
      go_wp2_with fail
      go_roundw
      case rel=>exact ⟨k+1,by go_num,by omega,HS3.out,FDD.out.tr FE.out⟩
      case measure=>simp [intOf]; omega
  ·obtain rfl:k=d.bats.length:=by omega
   have dn:=zB (P1.out.old FF.out).b 1;have HR:=zz (show zKo d q.from'=d.en from by
    have h9:=HS.out;rw [List.drop_length] at h9;unfold zKo;rw [←h9];rfl)
   have X3:=zz ((FF.out.block _ (zA X1.out) fun h=>h).trans X1.out);go_wp2_with fail
   refine (yB d.en _).mono ?_;rintro e w8 ⟨rfl,hf8⟩;have X8:=(hf8.block _ (zA X3.out) fun h=>h).trans X3.out;have R9:=setRow_heap w8 (w.heap.size+1) _ (zS 0 d.en 0 0 0 0 0 (.slice none 0 0) (.slice none 0 0) (.slice none 0 0)) 31 (0,0) X8;have FN:=zz (zZ ((Fr.same w8).mono (S':=fun i=>i=w.heap.size+1) fun _ h=>h.elim) (g:=w.heap.size+1) (.inl rfl) (zS 0 d.en 0 0 0 0 0 (.slice none 0 0) (.slice none 0 0) (.slice none 0 0)));have F8:=zz hf8;clear hf8;go_wp2_with (refine zJ rfl _ _ rfl (w.heap.size+1) 0 d.en rfl rfl _ X8 rfl ?_)
   try simp only [Exit.inBlock,Exit.then]
   refine bodyPost_ret (results_cell_row rfl _ _ (w.heap.size+1) 31 _ (0,0) _ rfl R9 Tryz.underlying31 rfl (by kernel_rfl)) rfl ?_;exact ⟨by rw [HR.out]; rfl,((F1.out.tr FF.out).tr F8.out).trans FN.out fun i e=>.inr (by omega)⟩
end
end Go.Proofs.YtfdhofabgdkkkaaGreatDoor
