/- A part of the proof that what the machine is told keeps its bounds. -/
import Derived.Test.YtfdhofabgdkkkaaGreatDoorJ48
import Derived.Test.YtfdhofabgdkkkaaGreatDoorJ46
set_option maxHeartbeats 128000000
set_option maxRecDepth 100000
namespace Go.Proofs.YtfdhofabgdkkkaaGreatDoor
open Lib renaming hid→zz
open Go.RowKit Go.Fm Go.BigFrame Go.Shelf Go.Maps
set_option linter.unusedVariables false
set_option linter.unusedSimpArgs false
section
variable {w w':World} {S K:Nat→Prop}
theorem MI.fr {m:zG} {c:zO} {k:Nat} (h:MI w m c k) (hf:Fr S w w') (hS:∀i,zIg m c i→¬S i):MI w' m c k:=
 ⟨h.a.fr hf (fun i hi=>hS i (.inl (.inl hi))) fun x hx i hi=>hS i (.inl (.inr ⟨x,hx,hi⟩)),h.cv,h.crd.fr hf fun i hi=>hS i (.inr hi),h.off,h.part,h.ll,h.tn,h.nx,h.tl,h.tz,h.uid⟩
theorem MI.old {m:zG} {c:zO} {k:Nat} (h:MI w m c k) (hf:Fr (fun _=>False) w w'):MI w' m c k:=h.fr hf fun _ _ h=>h
theorem MI.low {m:zG} {c:zO} {k:Nat} (h:MI w m c k) {i:Nat} (hi:zIg m c i):i < w.heap.size:=hi.elim (fun hi=>zG.A_lt h.a hi) fun hi=>h.crd.Tlow hi
theorem zAm {m:zG} {c:zO} {k:Nat} (h:MI w m c k) (q:Req) {e:Ending} {v:Value} (he:e=.returned v) {w4 w5:World} {rb:Nat} (hf4:Fr (fun _=>False) w w4) (hr1:w.heap.size≤rb) (hr2:rb < w4.heap.size) {m':zG} {c':zO} (h5:MI w5 m' c' (k+1)) (hmb:m'.mb=m.mb) (hs:uP q m m') (hm:MFr m c w4 w5 m' c') (hf5:Fr (fun i=>i=rb) w5 w'):xm m c k q w e w':=by
 refine ⟨⟨v,he⟩,m',c',h5.fr hf5 fun i hi e=>?_,hmb,hs,((hf4.mono (S':=zIg m c) fun _ h=>h.elim).trans hm.1 fun i h=>.inl h).trans hf5 fun i e=>.inr (by omega),fun i hi=>(hm.2 i hi).imp id fun h=>Nat.le_trans hf4.size h⟩;rcases hm.2 i hi with h1 | h1
 ·have:=h.low h1; omega
 ·omega
theorem MFr.none {m:zG} {c:zO} (hf:Fr (fun _=>False) w w'):MFr m c w w' m c:=⟨hf.mono fun _ h=>h.elim,fun i h=>.inl h⟩
theorem do_min4 {m:zG} {c:zO} {k:Nat} (h:MI w m c k) (hk9:k≤400000) (q:Req) (rv kv tv:Value) (K:Nat→Prop) (ft lt:ByteArray) (fok lok:Bool) (hE:xM w q rv kv tv K ft lt fok lok) (hsz:(yQ ByteArray.empty q ft lt).size≤2000000000000000) (he:zy q ft lt fok lok=true) (hk:q.kind=4) (hd:zU m q.name q.index=none) (now:Int):
  Calls Tryz.prog 12 #[.pointer (some ⟨m.mb,0,none⟩),.agg (zT q rv kv tv),.int .i64 now] w (xm m c k q w):=by
 refine (vw h.a q rv kv tv K ft lt fok lok hE hsz he (.inl hk) hd now).mono ?_;rintro e w' ⟨hee,hf⟩;exact jK h q hee hf
theorem do_min5 {m:zG} {c:zO} {k:Nat} (h:MI w m c k) (hk9:k≤400000) (q:Req) (rv kv tv:Value) (K:Nat→Prop) (ft lt:ByteArray) (fok lok:Bool) (hE:xM w q rv kv tv K ft lt fok lok) (hsz:(yQ ByteArray.empty q ft lt).size≤2000000000000000) (he:zy q ft lt fok lok=true) (hk:q.kind=5) (hd:zU m q.name q.index=none) (now:Int):
  Calls Tryz.prog 12 #[.pointer (some ⟨m.mb,0,none⟩),.agg (zT q rv kv tv),.int .i64 now] w (xm m c k q w):=by
 refine (vw h.a q rv kv tv K ft lt fok lok hE hsz he (.inr (.inl hk)) hd now).mono ?_;rintro e w' ⟨hee,hf⟩;exact jK h q hee hf
theorem do_min6 {m:zG} {c:zO} {k:Nat} (h:MI w m c k) (hk9:k≤400000) (q:Req) (rv kv tv:Value) (K:Nat→Prop) (ft lt:ByteArray) (fok lok:Bool) (hE:xM w q rv kv tv K ft lt fok lok) (hsz:(yQ ByteArray.empty q ft lt).size≤2000000000000000) (he:zy q ft lt fok lok=true) (hk:q.kind=6) (hd:zU m q.name q.index=none) (now:Int):
  Calls Tryz.prog 12 #[.pointer (some ⟨m.mb,0,none⟩),.agg (zT q rv kv tv),.int .i64 now] w (xm m c k q w):=by
 refine (vw h.a q rv kv tv K ft lt fok lok hE hsz he (.inr (.inr (.inl hk))) hd now).mono ?_;rintro e w' ⟨hee,hf⟩;exact jK h q hee hf
theorem do_min7 {m:zG} {c:zO} {k:Nat} (h:MI w m c k) (hk9:k≤400000) (q:Req) (rv kv tv:Value) (K:Nat→Prop) (ft lt:ByteArray) (fok lok:Bool) (hE:xM w q rv kv tv K ft lt fok lok) (hsz:(yQ ByteArray.empty q ft lt).size≤2000000000000000) (he:zy q ft lt fok lok=true) (hk:q.kind=7) (hd:zU m q.name q.index=none) (now:Int):
  Calls Tryz.prog 12 #[.pointer (some ⟨m.mb,0,none⟩),.agg (zT q rv kv tv),.int .i64 now] w (xm m c k q w):=by
 refine (vw h.a q rv kv tv K ft lt fok lok hE hsz he (.inr (.inr (.inr (.inl hk)))) hd now).mono ?_;rintro e w' ⟨hee,hf⟩;exact jK h q hee hf
theorem do_min12 {m:zG} {c:zO} {k:Nat} (h:MI w m c k) (hk9:k≤400000) (q:Req) (rv kv tv:Value) (K:Nat→Prop) (ft lt:ByteArray) (fok lok:Bool) (hE:xM w q rv kv tv K ft lt fok lok) (hsz:(yQ ByteArray.empty q ft lt).size≤2000000000000000) (he:zy q ft lt fok lok=true) (hk:q.kind=12) (hd:zU m q.name q.index=none) (now:Int):
  Calls Tryz.prog 12 #[.pointer (some ⟨m.mb,0,none⟩),.agg (zT q rv kv tv),.int .i64 now] w (xm m c k q w):=by
 refine (vw h.a q rv kv tv K ft lt fok lok hE hsz he (.inr (.inr (.inr (.inr hk)))) hd now).mono ?_;rintro e w' ⟨hee,hf⟩;exact jK h q hee hf
theorem do_mi3 {m:zG} {c:zO} {k:Nat} (h:MI w m c k) (hk9:k≤400000) (q:Req) (rv kv tv:Value) (K:Nat→Prop) (ft lt:ByteArray) (fok lok:Bool) (hE:xM w q rv kv tv K ft lt fok lok) (hsz:(yQ ByteArray.empty q ft lt).size≤2000000000000000) (he:zy q ft lt fok lok=true) (hk:q.kind=3) (now:Int):
  Calls Tryz.prog 12 #[.pointer (some ⟨m.mb,0,none⟩),.agg (zT q rv kv tv),.int .i64 now] w (xm m c k q w):=by
 refine (do_desc h.a q rv kv tv K ft lt fok lok hE hsz he hk h.tl now).mono ?_;rintro e w' ⟨v,hee,-,hf⟩;exact jK h q hee hf
theorem do_mi14 {m:zG} {c:zO} {k:Nat} (h:MI w m c k) (hk9:k≤400000) (q:Req) (rv kv tv:Value) (K:Nat→Prop) (ft lt:ByteArray) (fok lok:Bool) (hE:xM w q rv kv tv K ft lt fok lok) (hsz:(yQ ByteArray.empty q ft lt).size≤2000000000000000) (he:zy q ft lt fok lok=true) (hk:q.kind=14) (now:Int):
  Calls Tryz.prog 12 #[.pointer (some ⟨m.mb,0,none⟩),.agg (zT q rv kv tv),.int .i64 now] w (xm m c k q w):=by
 refine (zNp h.a q rv kv tv K ft lt fok lok hE hsz he hk (by have:=h.nx; omega) now).mono ?_;rintro e w' ⟨hee,ha,hf⟩;exact ⟨⟨_,hee⟩,_,c,h.next ha hf,rfl,uP.keep fun nm ix d hd=>hd,hf.mono fun i e=>.inl (.inl (.inl (.inl e))),fun i hi=>.inl hi⟩
theorem seek_ok {d:zR} {frm:Int} :vC (fun w4 e w5=>zPk d frm w4 e w5) w:=fun w4 e w5 hf ⟨he,hf2⟩=>
 ⟨⟨0,zKo d frm,0,0,0,0,0,.slice none 0 0,.slice none 0 0,.slice none 0 0,he,rfl,rfl,rfl⟩,fun b h1 h2=>hf2.block b h2 fun h=>h⟩
theorem do_mi6 {m:zG} {c:zO} {k:Nat} (h:MI w m c k) (hk9:k≤400000) (q:Req) (rv kv tv:Value) (K:Nat→Prop) (ft lt:ByteArray) (fok lok:Bool) (hE:xM w q rv kv tv K ft lt fok lok) (hsz:(yQ ByteArray.empty q ft lt).size≤2000000000000000) (he:zy q ft lt fok lok=true) (hk:q.kind=6) {d:zR} (hd:zU m q.name q.index=some d) (now:Int):
  Calls Tryz.prog 12 #[.pointer (some ⟨m.mb,0,none⟩),.agg (zT q rv kv tv),.int .i64 now] w (xm m c k q w):=by
 obtain ⟨p,hpm,hix,hfp,v,hv,hid⟩:=yU hd;have hp:PI d k:=(h.part _ hpm).1;refine (zAj h.a q rv kv tv K ft lt fok lok hE hsz he hd now (.inr (.inr (.inl ⟨hk,rfl,rfl⟩))) _ (seek_ok (d:=d) (frm:=q.from')) fun w4 hf=>zSm ((h.a.part _ hpm).old hf) hp.ok (by have:=hp.len; change d.bats.length≤_; omega) q rv kv tv).mono ?_;rintro e w' ⟨w4,w5,rb,hf4,hr1,hr2,⟨hee,hf⟩,hf5⟩;exact jK h q hee (fr_rb h hr1 hf4 hf hf5)
theorem trim_ok {m:zG} {c:zO} {k:Nat} (h:MI w m c k) {p:zY} {d:zR} (hpm:(p,d)∈m.L) {x:Int} :vC (fun w4 e w5=>zPj d x w4 e w5) w:=fun w4 e w5 hf hr=>by
 rcases hr with ⟨-,he,hf2⟩ | ⟨-,he,-,hf2⟩
 ·exact ⟨⟨12,0,0,0,0,0,0,.slice none 0 0,.slice none 0 0,.slice none 0 0,he,rfl,rfl,rfl⟩,fun b h1 h2=>hf2.block b h2 fun h=>h⟩
 ·exact ⟨⟨0,0,0,0,0,0,0,.slice none 0 0,.slice none 0 0,.slice none 0 0,he,rfl,rfl,rfl⟩,fun b h1 h2=>hf2.block b h2 fun e=>by have:=((h.a.part _ hpm).lt d.xb (.inl rfl)).2; omega⟩
theorem do_mi7 {m:zG} {c:zO} {k:Nat} (h:MI w m c k) (hk9:k≤400000) (q:Req) (rv kv tv:Value) (K:Nat→Prop) (ft lt:ByteArray) (fok lok:Bool) (hE:xM w q rv kv tv K ft lt fok lok) (hsz:(yQ ByteArray.empty q ft lt).size≤2000000000000000) (he:zy q ft lt fok lok=true) (hk:q.kind=7) {d:zR} (hd:zU m q.name q.index=some d) (now:Int):
  Calls Tryz.prog 12 #[.pointer (some ⟨m.mb,0,none⟩),.agg (zT q rv kv tv),.int .i64 now] w (xm m c k q w):=by
 obtain ⟨p,hpm,hix,hfp,v,hv,hid⟩:=yU hd;have hp:PI d k:=(h.part _ hpm).1;refine (zAj h.a q rv kv tv K ft lt fok lok hE hsz he hd now (.inr (.inr (.inr (.inl ⟨hk,rfl,rfl⟩)))) _ (trim_ok h hpm) fun w4 hf=>zYo ((h.a.part _ hpm).old hf) q rv kv tv).mono ?_;rintro e w' ⟨w4,w5,rb,hf4,hr1,hr2,hr,hf5⟩;rcases hr with ⟨-,hee,hf⟩ | ⟨hin,hee,hpa,hf⟩
 ·exact jK h q hee (fr_rb h hr1 hf4 hf hf5)
 ·have h4:=h.old hf4
  have hfT:Fr d.T w4 w5:=hf.mono fun i e=>.inl (.inl e)
  have ha:=h4.a.set hpm hpa rfl (fun i hi=>.inl hi) hfT;exact zAm h q hee hf4 hr1 hr2 (h4.turn hpm ha (fun i hi=>.inl hi) hfT ⟨hp.ok,by have:=hp.len; show d.bats.length≤_; omega,by have:=hp.n; show d.n≤_; omega,⟨by have:=hp.st; show 0≤q.from'; omega,hin.2⟩,by have:=hp.en; show d.en≤_; omega⟩) rfl (uP.turn h hix hfp hv hid hin.1 (Int.le_refl _)) ⟨hfT.mono fun i hi=>.inl (.inl (.inr ⟨_,hpm,hi⟩)),fun i hi=>by
   rcases hi with (hi | ⟨x,hx,hi⟩) | hi
   ·exact .inl (.inl (.inl hi))
   ·obtain ⟨y,hy,rfl⟩:=List.mem_map.1 hx
    by_cases e:y.1=p
    ·rw [if_pos e] at hi
     exact .inl (.inl (.inr ⟨_,hpm,hi⟩))
    ·rw [if_neg e] at hi
     exact .inl (.inl (.inr ⟨y,hy,hi⟩))
   ·exact .inl (.inr hi)⟩ hf5
end
section
variable {w w':World} {S K:Nat→Prop}
theorem MI.made9 {m:zG} {c:zO} {k:Nat} (h:MI w m c k) {q:Req} (hn2:q.name.size≤100) (hc1:1≤q.count) (hc2:q.count≤16) (hg:zk m.TL q.name=none) (hl:m.TL.length < 20) {e:Ending} (hp:zAl w m q.name q.count e w'):
  ∃m':zG,MI w' m' c (k+1)∧m'.mb=m.mb∧((∀i,m'.B i→m.B i)∧(∀x∈m'.L,∀i,x.2.T i→(∃y∈m.L,y.2.T i)∨w.heap.size≤i)∧Fr m.B w w')∧(∀nm ix d,zU m nm ix=some d→zU m' nm ix=some d)∧∀i:Int,0≤i→i < q.count→∃d,zU m' q.name i=some d∧zQr d:=by
 obtain ⟨-,m',ha,hmb,hTL,htn,hnx,hcv,hnew,hold,hB,hT,hlen,hf⟩:=hp;have idlt:∀r∈m.TL,jm r.2 < m.tn:=fun r hr=>by
  obtain ⟨i,p,he,h0,h1⟩:=h.a.ids r hr;rw [he,jM];exact h1
 have low:=h.tn;refine ⟨m',⟨ha,by rw [hcv]; exact h.cv,(h.crd.fr hf fun i hi hb=>h.off i hi (.inl hb)).more (by omega),fun i hi hA=>?_,fun x hx=>?_,by have:=h.ll; omega,by rw [htn]; omega,by rw [hnx]; have:=h.nx; omega,?_,fun r hr=>?_,fun r hr s hs he=>?_⟩,hmb,⟨hB,hT,hf⟩,fun nm ix d hd=>?_,fun i h0 h1=>(hnew i h0 h1).imp fun d hd=>⟨(zWi hTL i).trans hd.1,hd.2⟩⟩
 ·rcases hA with hA | ⟨x,hx,hA⟩
  ·exact h.off i hi (.inl (hB i hA))
  ·rcases hT x hx i hA with ⟨y,hy,hyi⟩ | h1
   ·exact h.off i hi (.inr ⟨y,hy,hyi⟩)
   ·have:=h.crd.Tlow hi; omega
 ·have hx1:=zDj ha.keys (p:=x.1) (d:=x.2) hx
  by_cases hr:x.1.id=m.tn∧0≤x.1.ix∧x.1.ix < q.count
  ·obtain ⟨d,hd,hN⟩:=hnew x.1.ix hr.2.1 hr.2.2
   have hpl:(⟨m.tn,x.1.ix⟩:zY)=x.1:=by rw [←hr.1]
   rw [hpl,hx1] at hd;obtain rfl:=Option.some.inj hd;exact ⟨⟨fun b hb=>(by rw [hN.bats] at hb; cases hb),by rw [hN.bats]; exact Nat.zero_le _,by rw [hN.n]; exact Nat.zero_le _,by rw [hN.st,hN.en]; omega,by rw [hN.en]; omega⟩,hr.2.1,by omega⟩
  ·rw [hold x.1 hr] at hx1
   have:=h.part _ (jV hx1)
   exact ⟨this.1.more,this.2⟩
 ·rw [hTL]
  unfold jb;rw [List.length_cons]
  have:=List.length_filter_le (fun r:ByteArray × Value=>decide (r.1≠q.name)) m.TL
  omega
 ·rw [hTL] at hr
  rcases List.mem_cons.1 hr with rfl | hr
  ·exact hn2
  ·exact h.tz r (List.mem_filter.1 hr).1
 ·rw [hTL] at hr hs
  rcases List.mem_cons.1 hr with rfl | hr
  ·rcases List.mem_cons.1 hs with rfl | hs
   ·rfl
   ·have:=idlt s (List.mem_filter.1 hs).1
    rw [←he,jM] at this;omega
  ·rcases List.mem_cons.1 hs with rfl | hs
   ·have:=idlt r (List.mem_filter.1 hr).1
    rw [he,jM] at this;omega
   ·exact h.uid r (List.mem_filter.1 hr).1 s (List.mem_filter.1 hs).1 he
 ·obtain ⟨p,hpm,hix,hfp,v,hv,hid⟩:=yU hd
  have hne:nm≠q.name:=fun e=>by rw [e,hg] at hv; cases hv
  have hv2:zk m'.TL nm=some v:=by rw [hTL,va,if_neg hne]; exact hv
  have hlt:=idlt _ (xH hv);unfold zU;rw [hv2];have hpe:(⟨jm v,ix⟩:zY)=p:=by rw [←hid,←hix]
  show zt m'.L ⟨jm v,ix⟩=some d
  rw [hpe,hold p (fun hh=>by
    have h9:p.id < m.tn:=by rw [hid]; exact hlt
    omega)]
  exact hfp
theorem zMi {L:List (ByteArray × Value)} {k:ByteArray} {parts:Int} (h:yc L k parts=0):1≤k.size∧1≤parts∧parts≤16∧zk L k=none∧L.length < 20:=by
 unfold yc at h;split at h
 ·exact absurd h (by decide)
 ·next h1=>
  split at h
  ·exact absurd h (by decide)
  ·next h2=>
   split at h
   ·exact absurd h (by decide)
   ·next h3=>exact ⟨by omega,by omega,by omega,by cases hg:zk L k with | none=>rfl | some v=>rw [hg] at h2; exact absurd rfl h2,by omega⟩
theorem zUi {m:zG} {c:zO} {k:Nat} (h:MI w m c k) {nm:ByteArray} {n:Int} :vC (fun w4 e w5=>zAl w4 m nm n e w5) w:=fun w4 e w5 hf hr=>by
 obtain ⟨he,m',-,-,-,-,-,-,-,-,-,-,-,hf2⟩:=hr;exact ⟨⟨0,m.tn,0,0,0,0,0,.slice none 0 0,.slice none 0 0,.slice none 0 0,he,rfl,rfl,rfl⟩,fun b h1 h2=>hf2.block b h2 fun e=>by have:=h.a.low.1 b e; omega⟩
theorem no_ok {er:Int} :vC (fun w4 e w5=>zUh er w4 e w5) w:=fun w4 e w5 hf ⟨he,hf2⟩=>
 ⟨⟨er,0,0,0,0,0,0,.slice none 0 0,.slice none 0 0,.slice none 0 0,he,rfl,rfl,rfl⟩,fun b h1 h2=>hf2.block b h2 fun h=>h⟩
theorem do_mi1 {m:zG} {c:zO} {k:Nat} (h:MI w m c k) (hk9:k≤400000) (q:Req) (rv kv tv:Value) (K:Nat→Prop) (ft lt:ByteArray) (fok lok:Bool) (hE:xM w q rv kv tv K ft lt fok lok) (hsz:(yQ ByteArray.empty q ft lt).size≤2000000000000000) (he:zy q ft lt fok lok=true) (hk:q.kind=1) (hk6:k≤60) (hn2:q.name.size≤100) (now:Int):
  Calls Tryz.prog 12 #[.pointer (some ⟨m.mb,0,none⟩),.agg (zT q rv kv tv),.int .i64 now] w (xm m c k q w):=by
 have hll:=h.ll;by_cases hce:yc m.TL q.name q.count=0
 ·obtain ⟨hn1,hc1,hc2,hg,hl⟩:=zMi hce
  refine (zAi h.a q rv kv tv K ft lt fok lok hE hsz he now (.inl ⟨hk,rfl⟩) _ (zUi h (nm:=q.name) (n:=q.count)) fun w4 hf=>kU (h.a.old hf) q rv kv tv hn1 hn2 hc1 hc2 hg hl (by have:=h.tn; omega) (by omega)).mono ?_;rintro e w' ⟨w4,w5,rb,hf4,hr1,hr2,hr,hf5⟩;obtain ⟨m',h5,hmb,⟨hB,hT,hf⟩,hs,-⟩:=(h.old hf4).made9 (q:=q) hn2 hc1 hc2 hg hl hr;exact zAm h q hr.1 hf4 hr1 hr2 h5 hmb (uP.keep hs) ⟨hf.mono fun i hi=>.inl (.inl (.inl hi)),fun i hi=>by
   rcases hi with (hi | ⟨x,hx,hi⟩) | hi
   ·exact .inl (.inl (.inl (hB i hi)))
   ·rcases hT x hx i hi with ⟨y,hy,hyi⟩ | h1
    ·exact .inl (.inl (.inr ⟨y,hy,hyi⟩))
    ·exact .inr h1
   ·exact .inl (.inr hi)⟩ hf5
 ·refine (zAi h.a q rv kv tv K ft lt fok lok hE hsz he now (.inl ⟨hk,rfl⟩) _ (no_ok (er:=yc m.TL q.name q.count)) fun w4 hf=>zZc (h.a.old hf) q rv kv tv hn2 h.tl hce).mono ?_
  rintro e w' ⟨w4,w5,rb,hf4,hr1,hr2,⟨hee,hf⟩,hf5⟩;exact jK h q hee (fr_rb h hr1 hf4 hf hf5)
end
section
variable {w w':World} {S K:Nat→Prop}
theorem MI.gone9 {m:zG} {c:zO} {k:Nat} (h:MI w m c k) {name:ByteArray} {e:Ending} (hp:zMe m c (2 * k) name w e w'):
  ∃(m':zG) (c':zO),MI w' m' c' (k+1)∧m'.mb=m.mb∧MFr m c w w' m' c'∧∀nm ix d,nm≠name→zU m nm ix=some d→zU m' nm ix=some d:=by
 rcases hp with ⟨-,-,hf⟩ | ⟨i,p,c',hg,-,ha,hc,rfl,hf⟩
 ·exact ⟨m,c,h.idle hf,rfl,⟨hf.mono fun _ h=>h.elim,fun i hi=>.inl hi⟩,fun nm ix d _ hd=>hd⟩
 ·refine ⟨{ m with L:=zIa m.L i 16,TL:=vZ m.TL name }, { c with O:=vY c.O (fun k=>decide (k.t=name)) },⟨ha,h.cv,by rw [zMg]; exact hc,fun j hj hA=>?_,fun x hx=>?_,?_,by have:=h.tn; show m.tn≤_; omega,by have:=h.nx; show m.next≤_; omega,Nat.le_trans (List.length_filter_le _ _) h.tl,fun r hr=>h.tz r (List.mem_filter.1 hr).1,fun r hr s hs he=>h.uid r (List.mem_filter.1 hr).1 s (List.mem_filter.1 hs).1 he⟩,rfl,⟨hf.mono fun j hj=>?_,fun j hj=>.inl ?_⟩,fun nm ix d hne hd=>?_⟩
  ·refine h.off j hj ?_
   rcases hA with hA | ⟨x,hx,hA⟩
   ·exact .inl hA
   ·exact .inr ⟨x,(yg m.L i 16).subset hx,hA⟩
  ·have:=h.part x ((yg m.L i 16).subset hx)
   exact ⟨this.1.more,this.2⟩
  ·have h9:=Nat.le_trans (yg m.L i 16).length_le h.ll
   exact Nat.le_trans h9 (Nat.mul_le_mul_left 16 (Nat.le_succ k))
  ·rcases hj with e | e | e
   ·exact .inl (.inl (.inl (.inr (.inr (.inl e)))))
   ·exact .inl (.inl (.inl (.inr (.inr (.inr e)))))
   ·exact .inl (.inr e)
  ·rcases hj with (hj | ⟨x,hx,hj⟩) | hj
   ·exact .inl (.inl hj)
   ·exact .inl (.inr ⟨x,(yg m.L i 16).subset hx,hj⟩)
   ·exact .inr hj
  ·obtain ⟨pl,hpm,hix,hfp,v,hv,hid⟩:=yU hd
   have hv2:zk (vZ m.TL name) nm=some v:=by rw [zHx,if_neg hne]; exact hv
   have hidn:pl.id≠i:=fun e=>hne (h.uid _ (xH hv) _ (xH hg) (by show jm v=jm (yq i p); rw [jM,←hid,e]))
   unfold zU;dsimp only;rw [hv2]
   show zt (zIa m.L i 16) ⟨jm v,ix⟩=some d
   have hpe:(⟨jm v,ix⟩:zY)=pl:=by rw [←hid,←hix]
   rw [hpe,zCb hidn];exact hfp
theorem gone_ok {m:zG} {c:zO} {k:Nat} (h:MI w m c k) {nm:ByteArray} :vC (fun w4 e w5=>zMe m c (2 * k) nm w4 e w5) w:=fun w4 e w5 hf hr=>by
 rcases hr with ⟨-,he,hf2⟩ | ⟨i,p,c',-,he,-,-,-,hf2⟩
 ·exact ⟨⟨6,0,0,0,0,0,0,.slice none 0 0,.slice none 0 0,.slice none 0 0,he,rfl,rfl,rfl⟩,fun b h1 h2=>hf2.block b h2 fun h=>h⟩
 ·refine ⟨⟨0,i,0,0,0,0,0,.slice none 0 0,.slice none 0 0,.slice none 0 0,he,rfl,rfl,rfl⟩,fun b h1 h2=>hf2.block b h2 fun e=>?_⟩
  rcases e with e | e | e
  ·have:=h.a.low.1 b (.inr (.inr (.inl e))); omega
  ·have:=h.a.low.1 b (.inr (.inr (.inr e))); omega
  ·have:=h.crd.Tlow e; omega
theorem do_mi2 {m:zG} {c:zO} {k:Nat} (h:MI w m c k) (hk9:k≤400000) (q:Req) (rv kv tv:Value) (K:Nat→Prop) (ft lt:ByteArray) (fok lok:Bool) (hE:xM w q rv kv tv K ft lt fok lok) (hsz:(yQ ByteArray.empty q ft lt).size≤2000000000000000) (he:zy q ft lt fok lok=true) (hk:q.kind=2) (hn2:q.name.size≤100) (now:Int):
  Calls Tryz.prog 12 #[.pointer (some ⟨m.mb,0,none⟩),.agg (zT q rv kv tv),.int .i64 now] w (xm m c k q w):=by
 refine (zAi h.a q rv kv tv K ft lt fok lok hE hsz he now (.inr ⟨hk,rfl⟩) _ (gone_ok h (nm:=q.name)) fun w4 hf=>zPm (h.a.old hf) (h.crd.old hf) h.cv h.off q rv kv tv (Nat.le_trans hn2 (by decide))).mono ?_;rintro e w' ⟨w4,w5,rb,hf4,hr1,hr2,hr,hf5⟩;have hv:∃v,e=.returned v:=hr.elim (fun h=>⟨_,h.2.1⟩) fun ⟨_,_,_,h⟩=>⟨_,h.2.1⟩
 obtain ⟨v,hv⟩:=hv;obtain ⟨m',c',h5,hmb,hm,hs⟩:=(h.old hf4).gone9 hr;refine zAm h q hv hf4 hr1 hr2 h5 hmb (fun nm ix d hd=>?_) hm hf5;by_cases e:nm=q.name
 ·exact .inl ⟨hk,e.symm⟩
 ·exact .inr ⟨d,hs nm ix d e hd,Int.le_refl _,Int.le_refl _,fun _=>⟨rfl,rfl,rfl⟩⟩
end
section
variable {w w':World} {S K:Nat→Prop}
theorem do_mibad {m:zG} {c:zO} {k:Nat} (h:MI w m c k) (q:Req) (rv kv tv:Value) (K:Nat→Prop) (ft lt:ByteArray) (fok lok:Bool) (hE:xM w q rv kv tv K ft lt fok lok) (he:zy q ft lt fok lok=false) (now:Int):
  Calls Tryz.prog 12 #[.pointer (some ⟨m.mb,0,none⟩),.agg (zT q rv kv tv),.int .i64 now] w (xm m c k q w):=by
 refine (do_bad h.a q rv kv tv K ft lt fok lok hE he now).mono ?_;rintro e w' ⟨hee,-,hf⟩;exact jK h q hee hf
end
section
variable {w w':World} {S:Nat→Prop}
theorem snewQ (a b:Int) (h:(1≤a∧a≤100000)∧1≤b∧b≤100000) (h0:0 < w.heap.size):Calls Tryz.prog 11 #[.int .i64 a,.int .i64 b] w (NewPost w):=by
 refine (zCa a b h.1 h.2 h0).mono ?_;rintro e w' ⟨mb,tb,tmb,pm,c,he,ha,hg,-,-,-,-,-,-,hf⟩;exact ⟨mb,tb,tmb,pm,_,he,ha,hg,hf⟩
theorem zSn {m:zG} (hM:zW w m) (q:Req) (rv kv tv:Value) (K:Nat→Prop) (ft lt:ByteArray) (fok lok:Bool) (hE:xM w q rv kv tv K ft lt fok lok) (hsz:(yQ ByteArray.empty q ft lt).size≤2000000000000000) (he:zy q ft lt fok lok=true) (hk:q.kind=1) (hk1:1≤q.name.size) (hk2:q.name.size≤100) (hc1:1≤q.count) (hc2:q.count≤16) (hg:zk m.TL q.name=none) (hL:m.TL.length < 20) (hn:m.tn < 1073741824) (hPL:m.L.length < 1000) (now:Int):
  Calls Tryz.prog 12 #[.pointer (some ⟨m.mb,0,none⟩),.agg (zT q rv kv tv),.int .i64 now] w (CrePost w m q.name q.count):=by
 refine (zAi hM q rv kv tv K ft lt fok lok hE hsz he now (.inl ⟨hk,rfl⟩) (fun w4 e w5=>zAl w4 m q.name q.count e w5) (fun w4 e w5 hf hr=>?_) fun w4 hf=>kU (hM.old hf) q rv kv tv hk1 hk2 hc1 hc2 hg hL hn hPL).mono ?_
 ·obtain ⟨he,m',-,-,-,-,-,-,-,-,-,-,-,hf2⟩:=hr
  exact ⟨⟨0,m.tn,0,0,0,0,0,.slice none 0 0,.slice none 0 0,.slice none 0 0,he,rfl,rfl,rfl⟩,fun b h1 h2=>hf2.block b h2 fun e=>by have:=hM.low.1 b e; omega⟩
 ·rintro e w' ⟨w4,w5,rb,hf4,hr1,hr2,⟨he,m',ha,hmb,hTL,htn,hnx,hcv,hnew,hold,hB,hT,hlen,hf⟩,hf5⟩
  refine ⟨he,m',ha.fr hf5 (fun i hi e=>by have:=hM.low.1 i (hB i hi); omega) (fun x hx i hi e=>?_),hmb,hTL,htn,hnx,hnew,hold,hB,fun x hx i hi=>(hT x hx i hi).imp id fun h=>Nat.le_trans hf4.size h,hlen,((hf4.mono (S':=m.B) fun _ h=>h.elim).trans hf fun i h=>.inl h).trans hf5 fun i e=>.inr (by omega)⟩;rcases hT x hx i hi with ⟨y,hy,hyi⟩ | h1
  ·have:=hM.low.2 y hy i hyi; omega
  ·omega
theorem zAn {m:zG} (hM:zW w m) (q:Req) (rv kv tv:Value) (K:Nat→Prop) (ft lt:ByteArray) (fok lok:Bool) (hE:xM w q rv kv tv K ft lt fok lok) (hsz:(yQ ByteArray.empty q ft lt).size≤2000000000000000) (hk:q.kind=4)
  {d:zR} (hd:zU m q.name q.index=some d) {p:zY} (hp:(p,d)∈m.L) (hen:0≤d.en∧d.en≤1099511627776) (hn:d.n < 100000) (hb:d.bats.length < 100000) (now:Int):
  Calls Tryz.prog 12 #[.pointer (some ⟨m.mb,0,none⟩),.agg (zT q rv kv tv),.int .i64 now] w (DoProd w m p d q.bat (zy q ft lt fok lok)):=by
 cases he:zy q ft lt fok lok with
 | false=>
  refine (do_bad hM q rv kv tv K ft lt fok lok hE he now).mono ?_;rintro e w' ⟨rfl,ha,hf⟩;exact ⟨1,0,rfl,.inl ⟨.inl rfl,rfl,rfl,ha,hf⟩⟩
 | true=>
  refine (zAj hM q rv kv tv K ft lt fok lok hE hsz he hd now (.inl ⟨hk,rfl,rfl⟩) (fun w4 e w5=>kp w4 d q.bat e w5) (fun w4 e w5 hf hr=>?_) fun w4 hf=>zLi ((hM.old hf).part _ hp) q rv kv tv K (hE.recs.old hf) (hE.steps.old hf) hen hn hb).mono ?_
  ·obtain ⟨ee,cc,rfl⟩:=zJk hr
   exact ⟨⟨ee,cc,0,0,0,0,0,.slice none 0 0,.slice none 0 0,.slice none 0 0,rfl,rfl,rfl,rfl⟩,fun b h1 h2=>(prod_fr hr).block b h2 fun e=>by have:=hM.low.2 _ hp b e; omega⟩
  ·rintro e w' ⟨w4,w5,rb,hf4,hr1,hr2,hr,hf5⟩
   obtain ⟨ee,cc,rfl⟩:=zJk hr;exact prod_do hp (hM.old hf4) hf4 hr hM.low (fun i=>i=rb) (fun i e=>⟨by omega,by omega⟩) hf5
theorem zBm {m:zG} (hM:zW w m) (q:Req) (rv tv:Value) (K1:Nat→Prop) (ks:Fst) (oe:Option Addr) (ce:Nat) (hkid:xV K1 w (.slice oe ks.len ce) ks) (hkb:∀i,K1 i→i < w.heap.size) (hck:xp q.fop q.fnm q.fvl ks=true) (hcw:ja w) (K:Nat→Prop) (ft lt:ByteArray) (fok lok:Bool) (hE:xM w q rv (.slice oe ks.len ce) tv K ft lt fok lok) (hsz:(yQ ByteArray.empty q ft lt).size≤2000000000000000) (he:zy q ft lt fok lok=true) (hk:q.kind=5)
  {d:zR} (hd:zU m q.name q.index=some d) {p:zY} (hp:(p,d)∈m.L) (hb:∀b∈d.bats,xO b) (hl:d.bats.length≤100000) (now:Int):
  Calls Tryz.prog 12 #[.pointer (some ⟨m.mb,0,none⟩),.agg (zT q rv (.slice oe ks.len ce) tv),.int .i64 now] w (DoFetchA (xo yO q.fop q.fnm q.fvl ks) w m d q.from' q.count):=by
 refine (zAj hM q rv _ tv K ft lt fok lok hE hsz he hd now (.inr (.inl ⟨hk,rfl,rfl⟩)) (fun w4 e w5=>jD (xo yO q.fop q.fnm q.fvl ks) w4 d q.from' q.count e w5) (fun w4 e w5 hf hr=>?_) fun w4 hf=>zZa ((hM.old hf).part _ hp) hb hl q rv tv K1 ks oe ce (hkid.old hf) (fun i hi=>Nat.lt_of_lt_of_le (hkb i hi) hf.size) hck (xf _ _ hcw hf) (hE.steps.old hf)).mono ?_
 ·obtain ⟨ee,st,en,bv,h1,h2⟩:=zFf hr
  exact ⟨⟨ee,0,st,en,0,0,0,bv,.slice none 0 0,.slice none 0 0,h1,h2,rfl,rfl⟩,fun b _ h2=>(zEf hr).block b h2 fun h=>h⟩
 ·rintro e w' ⟨w4,w5,rb,hf4,hr1,hr2,hr,hf5⟩
  exact ⟨zZb hr hf4 (fun i=>i=rb) (fun i e=>⟨by omega,by omega⟩) hf5,((hM.old hf4).old (zEf hr)).fr hf5 (fun i hi e=>by have:=hM.low.1 i hi; omega) fun x hx i hi e=>by have:=hM.low.2 x hx i hi; omega⟩
theorem zKr {m:zG} (hM:zW w m) (q:Req) (rv tv:Value) (K:Nat→Prop) (ft lt:ByteArray) (fok lok:Bool) (hE:xM w q rv (.slice none 0 0) tv K ft lt fok lok) (hsz:(yQ ByteArray.empty q ft lt).size≤2000000000000000) (he:zy q ft lt fok lok=true) (hk:q.kind=5)
  {d:zR} (hd:zU m q.name q.index=some d) {p:zY} (hp:(p,d)∈m.L) (hb:∀b∈d.bats,xO b) (hl:d.bats.length≤100000) (h1:q.fop=0) (h2:q.fnm=⟨#[]⟩) (h3:q.fvl=⟨#[]⟩) (hcw:ja w) (now:Int):
  Calls Tryz.prog 12 #[.pointer (some ⟨m.mb,0,none⟩),.agg (zT q rv (.slice none 0 0) tv),.int .i64 now] w (DoFetch w m d q.from' q.count):=by
 have hck:xp q.fop q.fnm q.fvl .nil=true:=by rw [h1,h2,h3]; kernel_rfl
 refine (zBm hM q rv tv (fun _=>False) .nil none 0 ⟨none,0,rfl,Nat.zero_le _,.inl rfl⟩ (fun i h=>h.elim) hck hcw K ft lt fok lok hE hsz he hk hd hp hb hl now).mono ?_;rintro e w' ⟨hr,ha⟩;have hid:zAh (xo yO q.fop q.fnm q.fvl .nil)=id:=funext fun b=>by
  unfold zAh;rw [List.filter_eq_self.2 fun r _=>by rw [h1,h2,h3]; rfl];rfl
 refine ⟨?_,ha⟩;unfold jD at hr;rw [hid,List.map_id] at hr;exact hr
theorem ft0:zFo 0 ⟨#[]⟩ ⟨#[]⟩ .nil=⟨#[0]⟩:=by kernel_rfl
theorem fo0:zJq 0 ⟨#[]⟩ ⟨#[]⟩ .nil=true:=by kernel_rfl
theorem tt0:zRc []=zM 0:=by unfold zRc; show zM 0++ByteArray.empty=zM 0; simp
theorem zMj {q:Req} {rv:Value} {K:Nat→Prop} (hr:xE K w rv q.bat.recs) (ho:∀i,K i→i < w.heap.size) (hw:zBf q) (hst:zc w) (h1:q.fop=0) (h2:q.fnm=⟨#[]⟩) (h3:q.fvl=⟨#[]⟩):
  xM w q rv (.slice none 0 0) (.slice none 0 0) (fun i=>i < w.heap.size) (zI ⟨#[0]⟩) (zM 0) true true:=by
 have h:=zIq.enc (q:=q) (ks:=.nil) (tl:=[]) (rv:=rv) (kv:=.slice none 0 0) (tv:=.slice none 0 0) ⟨hr.mono fun i _ h=>h,⟨none,0,rfl,Nat.zero_le _,.inl rfl⟩,⟨none,0,rfl,Nat.zero_le _,fun _ _ h=>by simp at h⟩,hw⟩ (Fr.same w) hst;rw [h1,h2,h3,ft0,fo0,tt0] at h;exact h
theorem vE {kind:Int} {name:ByteArray} {index count from':Int} (h:zGw (yy kind name index count from')) (hst:zc w):xM w (yy kind name index count from') (.slice none 0 0) (.slice none 0 0) (.slice none 0 0) (fun i=>i < w.heap.size) (zI ⟨#[0]⟩) (zM 0) true true:=
 zMj (zNl w 0) (fun i (h:False)=>h.elim) h.wf hst rfl rfl rfl
theorem zSo {m:zG} (hM:zW w m) (hst:zc w) {d:zR} {p:zY} (hd:zU m tS 0=some d) (hp:(p,d)∈m.L) (k:Nat) (hk:k < 60) (hen:d.en=k) (hn:d.n < 100000) (hb:d.bats.length < 100000)
  (rv:Value) (K:Nat→Prop) (hr:xE K w rv (xJ 0).recs) (ho:∀i,K i→i < w.heap.size):
  Calls Tryz.prog 12 #[.pointer (some ⟨m.mb,0,none⟩),.agg (zT (zCr tS 0 (xJ 0)) rv (.slice none 0 0) (.slice none 0 0)),.int .i64 1] w fun e w'=>e=.returned (xC 0 k)∧
   ∃d':zR,zW w' { m with L:=vG m.L p d' } ∧d'.st=d.st∧d'.en=(k+1:Nat)∧d'.bats=d.bats++ [xJ k]∧d'.n=d.n+1∧(∀i,d'.T i→d.T i∨w.heap.size≤i)∧Fr d.T w w':=by
 have hin:=sim_in 0 (by omega);have hab:atB d (xJ 0)=xJ k:=by unfold atB xJ; rw [hen]
 refine (zAn hM (zCr tS 0 (xJ 0)) rv _ _ _ _ _ true true (zMj hr ho hin.wf hst rfl rfl rfl) (kH hin.wf) rfl hd hp (by rw [hen]; omega) hn hb 1).mono ?_;rintro e w' ⟨ee,cc,rfl,hc⟩;rw [kI hin] at hc;have hok:xO (atB d (xJ 0))∧(ye (atB d (xJ 0))).size≤50000:=by
  rw [hab]; exact ⟨zCq (by omega) (by omega),by rw [zDy (by omega) (by omega)]; omega⟩
 have hchk:zLc d.F (atB d (xJ 0))=(0,false,0):=by
  rw [hab]; unfold zLc; exact if_pos rfl
 rcases hc with ⟨h,-⟩ | ⟨-,-,x,ag,c,hx,⟨h,-⟩ | ⟨rfl,rfl,rfl,rfl,d',h1,h2,h3,h4,h5,h6,h8,h7⟩⟩
 ·rcases h with h | h
  ·cases h
  ·exact absurd hok h
 ·have hx:=hchk.symm.trans hx
  injection hx with e1 e2
  injection e2 with e2 e3
  subst e2 e3;rcases h with h | h
  ·exact absurd rfl h
  ·cases h
 ·have hpr:(zCr tS 0 (xJ 0)).bat=xJ 0:=rfl
  rw [hpr,hab] at h4;rw [hpr] at h3;exact ⟨by rw [hen],d',h1,h2,by rw [h3,hen]; push_cast; rfl,h4,h6,h8,h7⟩
theorem madeQ {w0:World} {mb tb tmb pm:Nat} {cv:Value} (hM:zW w ⟨mb,tb,tmb,pm,0,[],cv,0,[]⟩) (hg:w0.heap.size≤mb∧w0.heap.size≤tb∧w0.heap.size≤tmb∧w0.heap.size≤pm) (hf:Fr (fun _=>False) w0 w) (hst:zc w0) (count:Int) (hc:1≤count∧count≤16):
  Calls Tryz.prog 12 #[.pointer (some ⟨mb,0,none⟩),jh 1 tS 0 count 0,.int .i64 1] w (MadePost w0 mb count):=by
 have i1:=vm (kind:=1) (name:=tS) (index:=0) (count:=count) (from':=0) (by omega) (by decide) (by omega) (by omega) (by omega);refine (zSn hM (yy 1 tS 0 count 0) (.slice none 0 0) (.slice none 0 0) (.slice none 0 0) _ _ _ true true (vE i1 (hst.old hf)) (kH i1.wf) (kI i1) rfl (show 1≤tS.size by decide) (show tS.size≤100 by decide) hc.1 hc.2 rfl (Nat.zero_lt_succ _) (by show (0:Int) < 1073741824; omega) (Nat.zero_lt_succ _) 1).mono ?_;rintro e w3 ⟨he,m3,p1,p2,p3,p4,p5,p6,p7,p8,p9,p10,p11⟩;have hB:∀i,(⟨mb,tb,tmb,pm,0,[],cv,0,[]⟩:zG).B i→w0.heap.size≤i:=by
  rintro i (h | h | h | h)
  ·have h:i=mb:=h; omega
  ·have h:i=tb:=h; omega
  ·have h:i=tmb:=h; omega
  ·have h:i=pm:=h; omega
 refine ⟨he,m3,⟨⟨p1,fun i hi=>hB i (p8 i hi),?_,hf.trans p11 fun i hi=>.inr (hB i hi)⟩,p2,p3,p5⟩,p6,?_⟩
 ·intro x hx i hi
  rcases p9 x hx i hi with ⟨y,hy,-⟩ | h
  ·cases hy
  ·exact Nat.le_trans hf.size h
 ·intro i hi
  rw [p7 ⟨0,i⟩ (fun h=>hi ⟨h.2.1,h.2.2⟩)];rfl
theorem zIh {w0:World} {mb:Nat} {m:zG} {d:zR} {k:Nat} (h:uu w0 w mb m d k) (hst:zc w0) (hk:k < 60) (oa:Option Addr) (c:Nat) (hr:xE (fun i=>i < w.heap.size) w (.slice oa 1 c) (xJ 0).recs):
  Calls Tryz.prog 12 #[.pointer (some ⟨mb,0,none⟩),.agg #[.int .i64 4,.string ⟨#[116]⟩,.int .i64 0,.int .i64 0,.int .i64 0,.bool false,.int .i64 0,.int .i64 1,.int .i64 (-1),.int .i64 (-1),.int .i64 (-1),.slice oa 1 c,.int .i64 0,.string ⟨#[]⟩,.string ⟨#[]⟩,.slice none 0 0,.string ⟨#[]⟩,.int .i64 0,.int .i64 0,.slice none 0 0],.int .i64 1] w fun e w'=>
   e=.returned (xC 0 k)∧∃m' d',uu w0 w' mb m' d' (k+1)∧(∀i,d'.T i→d.T i∨w.heap.size≤i)∧Fr d.T w w':=by
 have hm:=jV h.f;have P:=zSo h.o.n.a (hst.old h.o.n.f) ((h.o.find 0).trans h.f) hm k hk h.en (by rw [h.n]; omega) (by rw [h.bats,zGy]; omega) _ _ hr (fun i h=>h);rw [h.o.mb] at P;refine P.mono ?_;rintro e w' ⟨rfl,d',p1,p2,p3,p4,p5,p6,p7⟩;refine ⟨rfl,_,d',⟨⟨h.o.n.set hm (by rw [←h.o.mb] at p1; exact p1) p6 p7,h.o.mb,h.o.tl,h.o.nx⟩,?_,by rw [p2,h.st],p3,by rw [p4,h.bats]; rfl,by rw [p5,h.n],?_⟩,p6,p7⟩
 ·show zt (vG m.L ⟨0,0⟩ d') ⟨0,0⟩=some d'
  rw [zAs h.f,if_pos rfl]
 ·show zt (vG m.L ⟨0,0⟩ d') ⟨0,1⟩=none
  rw [zAs h.f,if_neg (by decide)]; exact h.no
theorem zPo {w0:World} {mb:Nat} {m:zG} {d:zR} (h:uu w0 w mb m d 2) (hst:zc w0) (hcw:ja w):
  Calls Tryz.prog 12 #[.pointer (some ⟨mb,0,none⟩),jh 5 tS 0 0 1,.int .i64 1] w fun e w'=>∃oa c,e=.returned (.agg (zS 0 0 0 2 0 0 0 (.slice oa 1 c) (.slice none 0 0) (.slice none 0 0)))∧uu w0 w' mb m d 2∧Fr (fun _=>False) w w':=by
 have hm:=jV h.f;have i1:=vm (kind:=5) (name:=tS) (index:=0) (count:=0) (from':=1) (by omega) (by decide) (by omega) (by omega) (by omega);have P:=zKr h.o.n.a (yy 5 tS 0 0 1) (.slice none 0 0) (.slice none 0 0) _ _ _ true true (vE i1 (hst.old h.o.n.f)) (kH i1.wf) (kI i1) rfl ((h.o.find 0).trans h.f) hm (by rw [h.bats]; exact zTl 2 (by omega)) (by rw [h.bats,zGy]; omega) rfl rfl rfl hcw 1;rw [h.o.mb] at P;refine P.mono ?_;rintro e w' ⟨hp,ha⟩;have hfr:=zNq hp;rcases hp with ⟨h1,-⟩ | ⟨h1,bv,rfl,hb,-⟩
 ·exact absurd ⟨by rw [h.st]; show (0:Int)≤1; omega,by rw [h.en]; show (1:Int)≤2; omega⟩ h1
 ·have hl:yF (yy 5 tS 0 0 1).from' (yy 5 tS 0 0 1).count d.bats 0 []=[xJ (1:Nat)]:=by rw [h.bats]; exact zNr
  rw [hl] at hb;obtain ⟨oa,c,rfl,-⟩:=hb;exact ⟨oa,c,by rw [h.st,h.en]; rfl,h.old hfr,hfr⟩
theorem live_uQ {w0:World} {mb:Nat} {m:zG} {d:zR} {k:Nat} (h:uu w0 w mb m d k) (hst:zc w0):
  Calls Tryz.prog 12 #[.pointer (some ⟨mb,0,none⟩),jh 5 uS 0 0 0,.int .i64 1] w fun e w'=>e=.returned (xC 6 0)∧uu w0 w' mb m d k∧Fr (fun _=>False) w w':=by
 have i1:=vm (kind:=5) (name:=uS) (index:=0) (count:=0) (from':=0) (by omega) (by decide) (by omega) (by omega) (by omega);have P:=vw h.o.n.a (yy 5 uS 0 0 0) (.slice none 0 0) (.slice none 0 0) (.slice none 0 0) _ _ _ true true (vE i1 (hst.old h.o.n.f)) (kH i1.wf) (kI i1) (.inr (.inl rfl)) (h.o.none 0) 1;rw [h.o.mb] at P;refine P.mono ?_;rintro e w' ⟨rfl,hf⟩;exact ⟨rfl,h.old hf,hf⟩
theorem zIi (hst:zc w) (hcw:ja w):Calls Tryz.prog 10 #[] w fun e w'=>e=.returned (.bool true)∧Fr (fun _=>False) w w':=by
 have h0:0 < w.heap.size:=by have:=hcw.2; omega
 have ST:=zz hst;have CW:=zz hcw;clear hst hcw;go_enter Tryz.func10,Tryz.ntmps10
 go_wp2_with fail
 refine (snewQ 10 10 (by omega) h0).mono ?_;rintro e w1 ⟨mb,tb,tmb,pm,cv,rfl,hM1,hg,f1⟩;have M1:=zz hM1;have F1:=zz f1;have GE:=zz hg;clear hM1 f1 hg;go_wp2_with fail
 refine (zWd (w:=w1)).mono ?_;rintro e w2 ⟨rfl,hw2⟩;subst hw2;have C1:=zz (madeQ M1.out GE.out F1.out ST.out 1 (by omega));unfold jh tS at C1;clear GE M1 F1;go_wp2_with fail
 refine C1.out.mono ?_;rintro e w3 ⟨rfl,m3,hO,hnew,hno⟩;obtain ⟨d1,hd1,hnp⟩:=hnew 0 (by omega) (by omega);have L3:=zz (show uu w w3 mb m3 d1 0 from ⟨hO,hd1,hnp.st,hnp.en,hnp.bats,hnp.n,hno 1 (by omega)⟩);have T5:=zz (show ¬d1.T w3.heap.size from fun h=>by have:=((L3.out.o.n.a.part _ (jV L3.out.f)).lt _ h).2; omega);clear hO hnew hd1 hnp hno C1;have HZ:=zC w3 (.cells #[.int .i64 0,.int .i64 0,.int .i64 0,.int .i64 0,.int .i64 0,.int .i64 0,.int .i64 0,.slice none 0 0,.slice none 0 0,.slice none 0 0] 31);obtain ⟨bf,bx⟩:=zEu w3 (zS 0 0 0 0 0 0 0 (.slice none 0 0) (.slice none 0 0) (.slice none 0 0));have G5:=zz bx;have BF:=zz bf;clear bf bx;go_wp2_with (refine zJ rfl _ _ rfl w3.heap.size 0 0 rfl rfl _ HZ rfl ?_)
 clear HZ;generalize ((w3.alloc (.cells #[.int .i64 0,.int .i64 0,.int .i64 0,.int .i64 0,.int .i64 0,.int .i64 0,.int .i64 0,.slice none 0 0,.slice none 0 0,.slice none 0 0] 31)).setRow w3.heap.size (zS 0 0 0 0 0 0 0 (.slice none 0 0) (.slice none 0 0) (.slice none 0 0)))=w4 at *;have L4:=zz (L3.out.old BF.out);clear BF L3;refine (kr w4).mono ?_;rintro e w5 ⟨oa5,c5,rfl,hr5,f5⟩;have P5:=zz (zIh (L4.out.old f5) ST.out (by omega) oa5 c5 (hr5.mono (K':=fun i=>i < w5.heap.size) fun i _ h=>h));have G5:=zz (blk G5.out f5 fun h=>h);clear hr5 f5 L4;unfold yP xJ at *;go_wp2_with fail
 refine P5.out.mono ?_;rintro e w6 ⟨he6,m6,d6,hL6,hT6,f6⟩;have he6:e=.returned (xC 0 0):=he6;subst he6;have L6:=zz hL6;have G5b:=zz (blk G5.out f6 T5.out);have T5b:=zz (show ¬d6.T w3.heap.size from fun h=>(hT6 _ h).elim T5.out fun h=>by have:=zA G5.out; omega);have T6:=zz (show ¬d6.T w6.heap.size from fun h=>by have:=((L6.out.o.n.a.part _ (jV L6.out.f)).lt _ h).2; omega);clear hL6 hT6 f6 P5 G5 T5;have HZ:=zC w6 (.cells #[.int .i64 0,.int .i64 0,.int .i64 0,.int .i64 0,.int .i64 0,.int .i64 0,.int .i64 0,.slice none 0 0,.slice none 0 0,.slice none 0 0] 31);obtain ⟨bf,bx⟩:=zEu w6 (zS 0 0 0 0 0 0 0 (.slice none 0 0) (.slice none 0 0) (.slice none 0 0));have G6:=zz bx;have BF:=zz bf;clear bf bx;go_wp2_with (refine zJ rfl _ _ rfl w6.heap.size 0 0 rfl rfl _ HZ rfl ?_)
 clear HZ;generalize ((w6.alloc (.cells #[.int .i64 0,.int .i64 0,.int .i64 0,.int .i64 0,.int .i64 0,.int .i64 0,.int .i64 0,.slice none 0 0,.slice none 0 0,.slice none 0 0] 31)).setRow w6.heap.size (zS 0 0 0 0 0 0 0 (.slice none 0 0) (.slice none 0 0) (.slice none 0 0)))=w7 at *;have L7:=zz (L6.out.old BF.out);have G5:=zz (blk G5b.out BF.out fun h=>h);clear BF L6 G5b;refine (kr w7).mono ?_;rintro e w8 ⟨oa8,c8,rfl,hr8,f8⟩;have P8:=zz (zIh (L7.out.old f8) ST.out (by omega) oa8 c8 (hr8.mono (K':=fun i=>i < w8.heap.size) fun i _ h=>h));have G5:=zz (blk G5.out f8 fun h=>h);have G6:=zz (blk G6.out f8 fun h=>h);clear hr8 f8 L7;unfold yP xJ at *;go_wp2_with fail
 refine P8.out.mono ?_;rintro e w9 ⟨he9,m9,d9,hL9,hT9,f9⟩;have he9:e=.returned (xC 0 1):=he9;subst he9;have L9:=zz hL9;have G5b:=zz (blk G5.out f9 T5b.out);have G6b:=zz (blk G6.out f9 T6.out);clear hL9 hT9 f9 P8 G5 G6 T5b T6;have HZ:=zC w9 (.cells #[.int .i64 0,.int .i64 0,.int .i64 0,.int .i64 0,.int .i64 0,.int .i64 0,.int .i64 0,.slice none 0 0,.slice none 0 0,.slice none 0 0] 31);obtain ⟨bf,bx⟩:=zEu w9 (zS 0 1 0 0 0 0 0 (.slice none 0 0) (.slice none 0 0) (.slice none 0 0));have G7:=zz bx;have BF:=zz bf;clear bf bx;go_wp2_with (refine zJ rfl _ _ rfl w9.heap.size 0 1 rfl rfl _ HZ rfl ?_)
 clear HZ;generalize ((w9.alloc (.cells #[.int .i64 0,.int .i64 0,.int .i64 0,.int .i64 0,.int .i64 0,.int .i64 0,.int .i64 0,.slice none 0 0,.slice none 0 0,.slice none 0 0] 31)).setRow w9.heap.size (zS 0 1 0 0 0 0 0 (.slice none 0 0) (.slice none 0 0) (.slice none 0 0)))=wa at *;have La:=zz (L9.out.old BF.out);have G5:=zz (blk G5b.out BF.out fun h=>h);have G6:=zz (blk G6b.out BF.out fun h=>h);have FT:=zz (zPo La.out ST.out (xf _ _ CW.out La.out.o.n.f));unfold jh tS at FT;clear BF L9 G5b G6b;refine FT.out.mono ?_;rintro e wb ⟨ob,cb,rfl,hLb,fb⟩;have Lb:=zz hLb;have G5:=zz (blk G5.out fb fun h=>h);have G6:=zz (blk G6.out fb fun h=>h);have G7:=zz (blk G7.out fb fun h=>h);clear hLb fb La FT;have HZ:=zC wb (.cells #[.int .i64 0,.int .i64 0,.int .i64 0,.int .i64 0,.int .i64 0,.int .i64 0,.int .i64 0,.slice none 0 0,.slice none 0 0,.slice none 0 0] 31);obtain ⟨bf,bx⟩:=zEu wb (zS 0 0 0 2 0 0 0 (.slice ob 1 cb) (.slice none 0 0) (.slice none 0 0));have G8:=zz bx;have BF:=zz bf;clear bf bx;go_wp2_with (refine zzq rfl _ _ rfl wb.heap.size 0 0 0 2 (.slice ob 1 cb) rfl rfl rfl _ HZ rfl ?_)
 clear HZ;generalize ((wb.alloc (.cells #[.int .i64 0,.int .i64 0,.int .i64 0,.int .i64 0,.int .i64 0,.int .i64 0,.int .i64 0,.slice none 0 0,.slice none 0 0,.slice none 0 0] 31)).setRow wb.heap.size (zS 0 0 0 2 0 0 0 (.slice ob 1 cb) (.slice none 0 0) (.slice none 0 0)))=wc at *;have Lc:=zz (Lb.out.old BF.out);have G5:=zz (blk G5.out BF.out fun h=>h);have G6:=zz (blk G6.out BF.out fun h=>h);have G7:=zz (blk G7.out BF.out fun h=>h);have UT:=zz (live_uQ Lc.out ST.out);unfold jh uS at UT;clear BF Lb;refine UT.out.mono ?_;rintro e wd ⟨rfl,hLd,fd⟩;have Ld:=zz hLd;have G5:=zz (blk G5.out fd fun h=>h);have G6:=zz (blk G6.out fd fun h=>h);have G7:=zz (blk G7.out fd fun h=>h);have G8:=zz (blk G8.out fd fun h=>h);clear hLd fd Lc UT;have HZ:=zC wd (.cells #[.int .i64 0,.int .i64 0,.int .i64 0,.int .i64 0,.int .i64 0,.int .i64 0,.int .i64 0,.slice none 0 0,.slice none 0 0,.slice none 0 0] 31);obtain ⟨bf,bx⟩:=zEu wd (zS 6 0 0 0 0 0 0 (.slice none 0 0) (.slice none 0 0) (.slice none 0 0));have G9:=zz bx;have Le:=zz (Ld.out.old bf);have G5:=zz (blk G5.out bf fun h=>h);have G6:=zz (blk G6.out bf fun h=>h);have G7:=zz (blk G7.out bf fun h=>h);have G8:=zz (blk G8.out bf fun h=>h);have x5:((wd.alloc (.cells #[.int .i64 0,.int .i64 0,.int .i64 0,.int .i64 0,.int .i64 0,.int .i64 0,.int .i64 0,.slice none 0 0,.slice none 0 0,.slice none 0 0] 31)).setRow wd.heap.size (zS 6 0 0 0 0 0 0 (.slice none 0 0) (.slice none 0 0) (.slice none 0 0))).cell? ⟨w3.heap.size,0,none⟩=some (.int .i64 0):=(zB G5.out 0).trans rfl;have x6:((wd.alloc (.cells #[.int .i64 0,.int .i64 0,.int .i64 0,.int .i64 0,.int .i64 0,.int .i64 0,.int .i64 0,.slice none 0 0,.slice none 0 0,.slice none 0 0] 31)).setRow wd.heap.size (zS 6 0 0 0 0 0 0 (.slice none 0 0) (.slice none 0 0) (.slice none 0 0))).cell? ⟨w6.heap.size,0,none⟩=some (.int .i64 0):=(zB G6.out 0).trans rfl;have x6b:((wd.alloc (.cells #[.int .i64 0,.int .i64 0,.int .i64 0,.int .i64 0,.int .i64 0,.int .i64 0,.int .i64 0,.slice none 0 0,.slice none 0 0,.slice none 0 0] 31)).setRow wd.heap.size (zS 6 0 0 0 0 0 0 (.slice none 0 0) (.slice none 0 0) (.slice none 0 0))).cell? ⟨w6.heap.size,1,none⟩=some (.int .i64 0):=(zB G6.out 1).trans rfl;have x7:((wd.alloc (.cells #[.int .i64 0,.int .i64 0,.int .i64 0,.int .i64 0,.int .i64 0,.int .i64 0,.int .i64 0,.slice none 0 0,.slice none 0 0,.slice none 0 0] 31)).setRow wd.heap.size (zS 6 0 0 0 0 0 0 (.slice none 0 0) (.slice none 0 0) (.slice none 0 0))).cell? ⟨w9.heap.size,1,none⟩=some (.int .i64 1):=(zB G7.out 1).trans rfl;have x8:((wd.alloc (.cells #[.int .i64 0,.int .i64 0,.int .i64 0,.int .i64 0,.int .i64 0,.int .i64 0,.int .i64 0,.slice none 0 0,.slice none 0 0,.slice none 0 0] 31)).setRow wd.heap.size (zS 6 0 0 0 0 0 0 (.slice none 0 0) (.slice none 0 0) (.slice none 0 0))).cell? ⟨wb.heap.size,3,none⟩=some (.int .i64 2):=(zB G8.out 3).trans rfl;have x8b:((wd.alloc (.cells #[.int .i64 0,.int .i64 0,.int .i64 0,.int .i64 0,.int .i64 0,.int .i64 0,.int .i64 0,.slice none 0 0,.slice none 0 0,.slice none 0 0] 31)).setRow wd.heap.size (zS 6 0 0 0 0 0 0 (.slice none 0 0) (.slice none 0 0) (.slice none 0 0))).cell? ⟨wb.heap.size,7,none⟩=some (.slice ob 1 cb):=(zB G8.out 7).trans rfl;have x9:((wd.alloc (.cells #[.int .i64 0,.int .i64 0,.int .i64 0,.int .i64 0,.int .i64 0,.int .i64 0,.int .i64 0,.slice none 0 0,.slice none 0 0,.slice none 0 0] 31)).setRow wd.heap.size (zS 6 0 0 0 0 0 0 (.slice none 0 0) (.slice none 0 0) (.slice none 0 0))).cell? ⟨wd.heap.size,0,none⟩=some (.int .i64 6):=(zB G9.out 0).trans rfl;have EN0:=zz (zNt Le.out 0 (.inl rfl));clear bf bx;go_wp2_with (refine zJ rfl _ _ rfl wd.heap.size 6 0 rfl rfl _ HZ rfl ?_)
 refine EN0.out.mono ?_;rintro e wf ⟨he,ff⟩;have he:e=.returned (.int .i64 2):=he;subst he;have Lf:=zz (Le.out.old ff);clear ff x5 x6 x6b x7 x8 x8b x9 EN0 HZ;have EN1:=zz (zNt Lf.out 1 (.inr rfl));go_wp2_with fail
 refine EN1.out.mono ?_;rintro e wg ⟨he,fg⟩;have he:e=.returned (.int .i64 (-1)):=he;subst he;have Lg:=zz (Lf.out.old fg);clear fg EN1;go_wp2_with fail
 go_ret
 exact ⟨rfl,Lg.out.o.n.f⟩
end
end Go.Proofs.YtfdhofabgdkkkaaGreatDoor
