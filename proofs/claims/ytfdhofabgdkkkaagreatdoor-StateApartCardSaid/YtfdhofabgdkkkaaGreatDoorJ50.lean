/- A part of the proof that what the machine is told keeps its bounds. -/
import Derived.Test.YtfdhofabgdkkkaaGreatDoorJ49
import Derived.Test.YtfdhofabgdkkkaaGreatDoorJ41
set_option maxHeartbeats 128000000
set_option maxRecDepth 100000
namespace Go.Proofs.YtfdhofabgdkkkaaGreatDoor
open Lib renaming hid→zz
open Go.RowKit Go.Fm Go.BigFrame Go.Shelf Go.Maps
set_option linter.unusedVariables false
set_option linter.unusedSimpArgs false
section
variable {w w':World} {S K:Nat→Prop}
theorem do_mi4 {m:zG} {c:zO} {k:Nat} (h:MI w m c k) (hk9:k≤60) (q:Req) (rv kv tv:Value) (K:Nat→Prop) (ft lt:ByteArray) (fok lok:Bool) (hE:xM w q rv kv tv K ft lt fok lok) (hsz:(yQ ByteArray.empty q ft lt).size≤2000000000000000) (hk:q.kind=4) {d:zR} (hd:zU m q.name q.index=some d) (now:Int):
  Calls Tryz.prog 12 #[.pointer (some ⟨m.mb,0,none⟩),.agg (zT q rv kv tv),.int .i64 now] w (xm m c k q w):=by
 obtain ⟨p,hpm,hix,hfp,v,hv,hid⟩:=yU hd;have hp:PI d k:=(h.part _ hpm).1;have h1:=hp.st;have h2:=hp.en;have h3:=hp.n;have h4:=hp.len;refine (zAn h.a q rv kv tv K ft lt fok lok hE hsz hk hd hpm ⟨by omega,by omega⟩ (by omega) (by omega) now).mono ?_;rintro e w' ⟨ee,cc,hee,h5⟩;rcases h5 with ⟨-,-,-,-,hf⟩ | ⟨-,hok,x,ag,c9,-,h6⟩
 ·exact jK h q hee hf
 rcases h6 with ⟨-,-,-,-,hf⟩ | ⟨-,-,-,-,d',ha,e1,e2,e3,-,e5,hT,hf⟩
 ·exact jK h q hee hf
 ·have hs:1≤q.bat.span∧q.bat.span≤50:=⟨hok.1.span0,hok.1.span1⟩
  refine ⟨⟨_,hee⟩,_,c,h.turn hpm ha hT hf ⟨fun b hb=>?_,by rw [e3,List.length_append]; show d.bats.length+1≤_; omega,by rw [e5]; omega,⟨by rw [e1]; omega,by rw [e1,e2]; omega⟩,by rw [e2]; push_cast; omega⟩,rfl,uP.turn h hix hfp hv hid (by rw [e1]; exact Int.le_refl _) (by rw [e2]; omega),hf.mono fun i hi=>.inl (.inl (.inr ⟨_,hpm,hi⟩)),fun i hi=>?_⟩
  ·rw [e3] at hb
   rcases List.mem_append.1 hb with hb | hb
   ·exact hp.ok b hb
   ·rw [List.mem_singleton.1 hb]; exact hok.1
  ·rcases hi with (hi | ⟨x,hx,hi⟩) | hi
   ·exact .inl (.inl (.inl hi))
   ·obtain ⟨y,hy,rfl⟩:=List.mem_map.1 hx
    by_cases e:y.1=p
    ·rw [if_pos e] at hi
     exact (hT i hi).imp (fun hi=>.inl (.inr ⟨_,hpm,hi⟩)) id
    ·rw [if_neg e] at hi
     exact .inl (.inl (.inr ⟨y,hy,hi⟩))
   ·exact .inl (.inr hi)
end
section
variable {w w':World} {S K:Nat→Prop}
theorem do_mi5 {m:zG} {c:zO} {k:Nat} (h:MI w m c k) (hk9:k≤60) (q:Req) (rv tv:Value) (K1:Nat→Prop) (ks:Fst) (oe:Option Addr) (ce:Nat) (hkid:xV K1 w (.slice oe ks.len ce) ks) (hkb:∀i,K1 i→i < w.heap.size) (hck:xp q.fop q.fnm q.fvl ks=true) (hcw:ja w) (K:Nat→Prop) (ft lt:ByteArray) (fok lok:Bool) (hE:xM w q rv (.slice oe ks.len ce) tv K ft lt fok lok) (hsz:(yQ ByteArray.empty q ft lt).size≤2000000000000000) (he:zy q ft lt fok lok=true) (hk:q.kind=5) {d:zR} (hd:zU m q.name q.index=some d) (now:Int):
  Calls Tryz.prog 12 #[.pointer (some ⟨m.mb,0,none⟩),.agg (zT q rv (.slice oe ks.len ce) tv),.int .i64 now] w (xm m c k q w):=by
 obtain ⟨p,hpm,hix,hfp,v,hv,hid⟩:=yU hd;have hp:PI d k:=(h.part _ hpm).1;have h4:=hp.len;refine (zBm h.a q rv tv K1 ks oe ce hkid hkb hck hcw K ft lt fok lok hE hsz he hk hd hpm hp.ok (by omega) now).mono ?_;rintro e w' ⟨h5,-⟩;obtain ⟨ee,st,en,bv,he9,-⟩:=zFf h5;exact jK h q he9 (zEf h5)
theorem do_any {w0:World} {m:zG} {c:zO} {k:Nat} (h:MI w m c k) (hk9:k≤60) (hf:Fr (fun _=>False) w0 w) (hlow:∀i,zIg m c i→w0.heap.size≤i) (hst:zc w) (hcw:ja w) (q:Req) (ks:Fst) (tl:List ByteArray) (rv kv tv:Value) (hR:zIq w0 q ks tl rv kv tv) (now:Int):
  Calls Tryz.prog 12 #[.pointer (some ⟨m.mb,0,none⟩),.agg (zT q rv kv tv),.int .i64 now] w (xm m c k q w):=by
 have hE:=hR.enc hf hst;have hk8:k≤400000:=by omega
 cases he:zy q (zI (zFo q.fop q.fnm q.fvl ks)) (zRc tl) (zJq q.fop q.fnm q.fvl ks) (zOa tl) with
 | false=>exact do_mibad h q rv kv tv _ _ _ _ _ hE he now
 | true=>
  obtain ⟨B,hfo,hto⟩:=vD he;have hz:(yQ ByteArray.empty q (zI (zFo q.fop q.fnm q.fvl ks)) (zRc tl)).size≤2000000000000000:=by
   unfold zy at he;simp only [Bool.and_eq_true,decide_eq_true_eq] at he;omega
  have hck:xp q.fop q.fnm q.fvl ks=true:=by
   unfold zJq at hfo;simp only [Bool.and_eq_true] at hfo;exact hfo.1
  have hl:=top_back hto;obtain ⟨k1,k2⟩:=B.kind;have hkd:q.kind=1∨q.kind=2∨q.kind=3∨q.kind=4∨q.kind=5∨q.kind=6∨q.kind=7∨q.kind=8∨q.kind=9∨q.kind=10∨q.kind=11∨q.kind=12∨q.kind=13∨q.kind=14:=by omega
  rcases hkd with hk | hk | hk | hk | hk | hk | hk | hk | hk | hk | hk | hk | hk | hk
  ·exact do_mi1 h hk8 q rv kv tv _ _ _ _ _ hE hz he hk hk9 B.name now
  ·exact do_mi2 h hk8 q rv kv tv _ _ _ _ _ hE hz he hk B.name now
  ·exact do_mi3 h hk8 q rv kv tv _ _ _ _ _ hE hz he hk now
  ·cases hd:zU m q.name q.index with
   | none=>exact do_min4 h hk8 q rv kv tv _ _ _ _ _ hE hz he hk hd now
   | some d=>exact do_mi4 h hk9 q rv kv tv _ _ _ _ _ hE hz hk hd now
  ·cases hd:zU m q.name q.index with
   | none=>exact do_min5 h hk8 q rv kv tv _ _ _ _ _ hE hz he hk hd now
   | some d=>
    have hK:=hR.kids.old hf;obtain ⟨oe,ce,rfl,-⟩:=id hR.kids;exact do_mi5 h hk9 q rv tv _ ks oe ce hK (fun i hi=>Nat.lt_of_lt_of_le hi hf.size) hck hcw _ _ _ _ _ hE hz he hk hd now
  ·cases hd:zU m q.name q.index with
   | none=>exact do_min6 h hk8 q rv kv tv _ _ _ _ _ hE hz he hk hd now
   | some d=>exact do_mi6 h hk8 q rv kv tv _ _ _ _ _ hE hz he hk hd now
  ·cases hd:zU m q.name q.index with
   | none=>exact do_min7 h hk8 q rv kv tv _ _ _ _ _ hE hz he hk hd now
   | some d=>exact do_mi7 h hk8 q rv kv tv _ _ _ _ _ hE hz he hk hd now
  ·exact do_mi8 h hk8 q rv kv tv _ _ _ _ _ hE hz he hk tl (hR.tops.old hf) (fun i hi=>⟨Nat.lt_of_lt_of_le hi hf.size,fun hT=>by have:=hlow i (.inr hT); omega⟩) (by omega) now
  ·exact do_mi9 h hk8 q rv kv tv _ _ _ _ _ hE hz he hk now
  ·exact do_mi10 h hk8 q rv kv tv _ _ _ _ _ hE hz he hk now
  ·exact do_mi11 h hk8 q rv kv tv _ _ _ _ _ hE hz he hk now
  ·cases hd:zU m q.name q.index with
   | none=>exact do_min12 h hk8 q rv kv tv _ _ _ _ _ hE hz he hk hd now
   | some d=>exact do_mi12 h hk8 q rv kv tv _ _ _ _ _ hE hz he hk hd now
  ·exact do_mi13 h hk8 q rv kv tv _ _ _ _ _ hE hz he hk now
  ·exact do_mi14 h hk8 q rv kv tv _ _ _ _ _ hE hz he hk now
structure vH (w0 w:World) (m:zG) (c:zO) (k:Nat):Prop where
 mi:MI w m c k
 fr:Fr (fun _=>False) w0 w
 low:∀i,zIg m c i→w0.heap.size≤i
theorem vH.old {w0:World} {m:zG} {c:zO} {k:Nat} (h:vH w0 w m c k) (hf:Fr (fun _=>False) w w'):vH w0 w' m c (k+1):=⟨h.mi.idle hf,h.fr.tr hf,h.low⟩
theorem vH.next {w0:World} {m:zG} {c:zO} {k:Nat} (h:vH w0 w m c k) {q:Req} {e:Ending} (hp:xm m c k q w e w'):(∃v,e=.returned v)∧∃m' c',vH w0 w' m' c' (k+1)∧m'.mb=m.mb∧uP q m m'∧Fr (zIg m c) w w':=by
 obtain ⟨hv,m',c',h1,h2,h3,h4,h5⟩:=hp;refine ⟨hv,m',c',⟨h1,h.fr.trans h4 fun i hi=>.inr (h.low i hi),fun i hi=>(h5 i hi).elim (h.low i) fun h9=>Nat.le_trans h.fr.size h9⟩,h2,h3,h4⟩
end
section
variable {w w':World} {S K:Nat→Prop}
def aS:ByteArray:=⟨#[97]⟩
def sS:ByteArray:=⟨#[115]⟩
theorem zPp {w0:World} {e:Ending} (hf0:Fr (fun _=>False) w0 w) (h:zPn 10 10 w e w'):
  ∃(m:zG) (c:zO),e=.returned (.tuple #[.pointer (some ⟨m.mb,0,none⟩),.int .i64 0])∧vH w0 w' m c 0∧m.TL=[]∧m.L=[]:=by
 obtain ⟨mb,tb,tmb,pm,c,rfl,ha,hg,hc,-,-,-,-,hT,hf⟩:=h;have hs:=hf0.size;refine ⟨_,c,rfl,⟨⟨ha,rfl,hc,fun i hi hA=>?_,fun x hx=>(by cases hx),Nat.zero_le _,by show (0:Int)≤_; omega,by show (0:Int)≤_; omega,Nat.zero_le _,fun r hr=>(by cases hr),fun r hr=>(by cases hr)⟩,hf0.tr hf,fun i hi=>?_⟩,rfl,rfl⟩
 ·obtain ⟨h1,h2,h3,h4,h5⟩:=hT i hi
  rcases hA with hA | ⟨x,hx,-⟩
  ·rcases hA with hA | hA | hA | hA
   ·exact h2 hA
   ·exact h3 hA
   ·exact h4 hA
   ·exact h5 hA
  ·cases hx
 ·rcases hi with hA | hi
  ·rcases hA with hA | ⟨x,hx,-⟩
   ·rcases hA with hA | hA | hA | hA <;> (dsimp only at hA; omega)
   ·cases hx
  ·have:=(hT i hi).1; omega
def zDk (w0:World) (m:zG) (k:Nat) (q:Req) (e:Ending) (w':World):Prop:=(∃v,e=.returned v)∧∃(m':zG) (c':zO),vH w0 w' m' c' (k+1)∧m'.mb=m.mb∧uP q m m'
theorem zFz {w0:World} {m:zG} {c:zO} {k:Nat} (h:vH w0 w m c k) (hk9:k≤60) (hst:zc w0) (hcw:ja w0) (q:Req) (ks:Fst) (tl:List ByteArray) (rv kv tv:Value) (hR:zIq w0 q ks tl rv kv tv) (now:Int):
  Calls Tryz.prog 12 #[.pointer (some ⟨m.mb,0,none⟩),.agg (zT q rv kv tv),.int .i64 now] w (zDk w0 m k q):=by
 refine (do_any h.mi hk9 h.fr h.low (hst.old h.fr) (xf _ _ hcw h.fr) q ks tl rv kv tv hR now).mono ?_;intro e w' hp;obtain ⟨h1,m',c',h2,h3,h4,-⟩:=h.next hp;exact ⟨h1,m',c',h2,h3,h4⟩
theorem plain_rr (w:World) {kind:Int} {nm:ByteArray} {ix count from':Int} (h:zBf (yy kind nm ix count from')):zIq w (yy kind nm ix count from') .nil [] (.slice none 0 0) (.slice none 0 0) (.slice none 0 0):=
 ⟨zNl w 0,⟨none,0,rfl,Nat.zero_le _,.inl rfl⟩,⟨none,0,rfl,Nat.zero_le _,fun _ _ h=>by simp at h⟩,h⟩
theorem zZd {w0:World} {m:zG} {c:zO} {k:Nat} (h:vH w0 w m c k) (hk9:k≤60) (hst:zc w0) (hcw:ja w0) {kind:Int} {nm:ByteArray} {ix count from':Int} (hw:zBf (yy kind nm ix count from')) (now:Int):
  Calls Tryz.prog 12 #[.pointer (some ⟨m.mb,0,none⟩),jh kind nm ix count from',.int .i64 now] w (zDk w0 m k (yy kind nm ix count from')):=
 zFz h hk9 hst hcw (yy kind nm ix count from') .nil [] (.slice none 0 0) (.slice none 0 0) (.slice none 0 0) (plain_rr w0 hw) now
theorem zEg {w0:World} {m:zG} {c:zO} {k:Nat} (h:vH w0 w m c k) (hst:zc w0) (hcw:ja w0) (hk:k≤100) {nm:ByteArray} {ix a:Int} {d:zR} (hn:nm.size≤100) (hd:zU m nm ix=some d) (ha:d.st≤a∧a≤d.en):
  Calls Tryz.prog 12 #[.pointer (some ⟨m.mb,0,none⟩),jh 5 nm ix 0 a,.int .i64 1] w fun e w'=>∃bv,e=.returned (.agg (zS 0 0 d.st d.en 0 0 0 bv (.slice none 0 0) (.slice none 0 0)))∧uH (fun i=>w.heap.size≤i) w' bv (yF a 0 d.bats 0 [])∧Fr (fun _=>False) w w':=by
 obtain ⟨p,hpm,hix,hfp,v,hv,hid⟩:=yU hd;have hp:=h.mi.part _ hpm;have h1:=hp.1.st;have h2:=hp.1.en;have h3:=hp.1.len;have h4:=hp.2;dsimp only at h1 h2 h3 h4;have i1:=vm (kind:=5) (name:=nm) (index:=ix) (count:=0) (from':=a) (by omega) hn (by omega) (by omega) (by omega);have P:=zKr h.mi.a (yy 5 nm ix 0 a) (.slice none 0 0) (.slice none 0 0) _ _ _ true true (vE i1 (hst.old h.fr)) (kH i1.wf) (kI i1) rfl hd hpm hp.1.ok (by omega) rfl rfl rfl (xf _ _ hcw h.fr) 1;refine P.mono ?_;rintro e w' ⟨hp,-⟩;have hfr:=zNq hp;rcases hp with ⟨h1,-⟩ | ⟨h1,bv,rfl,hb,-⟩
 ·exact absurd ha h1
 ·exact ⟨bv,rfl,hb,hfr⟩
theorem law_made {w0:World} {m:zG} {c:zO} (h:vH w0 w m c 0) (hst:zc w0) (hTL:m.TL=[]) (hL:m.L=[]) {nm:ByteArray} {count:Int} (hn1:1≤nm.size) (hn2:nm.size≤100) (hc:1≤count∧count≤16):
  Calls Tryz.prog 12 #[.pointer (some ⟨m.mb,0,none⟩),jh 1 nm 0 count 0,.int .i64 1] w fun e w'=>(∃v,e=.returned v)∧∃m':zG,vH w0 w' m' c 1∧m'.mb=m.mb∧∀i:Int,0≤i→i < count→∃d,zU m' nm i=some d∧zQr d:=by
 have i1:=vm (kind:=1) (name:=nm) (index:=0) (count:=count) (from':=0) (by omega) hn2 (by omega) (by omega) (by omega);have hg:zk m.TL nm=none:=by rw [hTL]; rfl
 have hl:m.TL.length < 20:=by rw [hTL]; decide
 have P:=zAi h.mi.a (yy 1 nm 0 count 0) (.slice none 0 0) (.slice none 0 0) (.slice none 0 0) _ _ _ true true (vE i1 (hst.old h.fr)) (kH i1.wf) (kI i1) 1 (.inl ⟨rfl,rfl⟩) _ (zUi h.mi (nm:=nm) (n:=count)) fun w4 hf=>kU (h.mi.a.old hf) (yy 1 nm 0 count 0) (.slice none 0 0) (.slice none 0 0) (.slice none 0 0) hn1 hn2 hc.1 hc.2 hg hl (by have:=h.mi.tn; omega) (by rw [hL]; decide)
 refine P.mono ?_;rintro e w' ⟨w4,w5,rb,hf4,hr1,hr2,hr,hf5⟩;obtain ⟨m',h5,hmb,⟨hB,hT,hf⟩,hs,hnew⟩:=(h.mi.old hf4).made9 (q:=yy 1 nm 0 count 0) hn2 hc.1 hc.2 hg hl hr;have hsz:=h.fr.size;have up:∀i,zIg m' c i→zIg m c i∨w4.heap.size≤i:=fun i hi=>by
  rcases hi with (hi | ⟨x,hx,hi⟩) | hi
  ·exact .inl (.inl (.inl (hB i hi)))
  ·rcases hT x hx i hi with ⟨y,hy,hyi⟩ | h1
   ·exact .inl (.inl (.inr ⟨y,hy,hyi⟩))
   ·exact .inr h1
  ·exact .inl (.inr hi)
 have s4:=hf4.size;refine ⟨⟨_,hr.1⟩,m',⟨h5.fr hf5 fun i hi e=>?_,?_,fun i hi=>?_⟩,hmb,hnew⟩
 ·rcases up i hi with h1 | h1
  ·have:=h.mi.low h1; omega
  ·omega
 ·exact ((h.fr.tr hf4).trans hf fun i hi=>.inr (h.low i (.inl (.inl hi)))).trans hf5 fun i e=>.inr (by omega)
 ·rcases up i hi with h1 | h1
  ·exact h.low i h1
  ·omega
theorem one_in (nm:ByteArray) (hn:nm.size≤100) (ix:Int) (h:-1≤ix∧ix≤2199023255552):zGw (zCr nm ix (xJ 0)):=by
 have q:=sim_in ix h;exact ⟨q.kind,q.index,q.count,q.from',q.member,q.gen,hn,q.group,q.bat,q.size⟩
theorem law_one {w0:World} {m:zG} {c:zO} {k:Nat} (h:vH w0 w m c k) (hst:zc w0) (hk:k≤60) {nm:ByteArray} {ix:Int} {d:zR} (hn:nm.size≤100) (hd:zU m nm ix=some d) (hN:zQr d) (rv:Value) (K:Nat→Prop) (hr:xE K w rv (xJ 0).recs) (ho:∀i,K i→i < w.heap.size):
  Calls Tryz.prog 12 #[.pointer (some ⟨m.mb,0,none⟩),.agg (zT (zCr nm ix (xJ 0)) rv (.slice none 0 0) (.slice none 0 0)),.int .i64 1] w fun e w'=>(∃v,e=.returned v)∧∃m':zG,vH w0 w' m' c (k+1)∧m'.mb=m.mb∧∃d',zU m' nm ix=some d'∧d'.st=0∧d'.en=1∧d'.bats=[xJ 0]:=by
 obtain ⟨p,hpm,hix,hfp,v,hv,hid⟩:=yU hd;have hp:=h.mi.part _ hpm;have h2:=hp.2;dsimp only at h2;have hin:=one_in nm hn ix (by omega);have hab:atB d (xJ 0)=xJ 0:=by unfold atB xJ; rw [hN.en]
 refine (zAn h.mi.a (zCr nm ix (xJ 0)) rv _ _ _ _ _ true true (zMj hr ho hin.wf (hst.old h.fr) rfl rfl rfl) (kH hin.wf) rfl hd hpm (by rw [hN.en]; omega) (by rw [hN.n]; omega) (by rw [hN.bats]; decide) 1).mono ?_;rintro e w' ⟨ee,cc,rfl,hc⟩;rw [kI hin] at hc;have hok:xO (atB d (xJ 0))∧(ye (atB d (xJ 0))).size≤50000:=by
  rw [hab]; exact ⟨zCq (by omega) (by omega),by rw [zDy (by omega) (by omega)]; omega⟩
 have hchk:zLc d.F (atB d (xJ 0))=(0,false,0):=by
  rw [hab]; unfold zLc; exact if_pos rfl
 rcases hc with ⟨h,-⟩ | ⟨-,-,x,ag,c9,hx,⟨h9,-⟩ | ⟨rfl,rfl,rfl,rfl,d',ha,e1,e2,e3,h5,e5,hT,hf⟩⟩
 ·rcases h with h | h
  ·cases h
  ·exact absurd hok h
 ·have hx:=hchk.symm.trans hx
  injection hx with e1 e2
  injection e2 with e2 e3
  subst e2 e3;rcases h9 with h9 | h9
  ·exact absurd rfl h9
  ·cases h9
 ·have hpr:(zCr nm ix (xJ 0)).bat=xJ 0:=rfl
  rw [hpr,hab] at e3;rw [hN.bats,List.nil_append] at e3;rw [hpr,hN.en] at e2;rw [hN.st] at e1;rw [hN.n] at e5;have e2:d'.en=1:=by rw [e2]; rfl
  refine ⟨⟨_,rfl⟩,_,⟨h.mi.turn hpm ha hT hf ⟨fun b hb=>?_,by rw [e3]; show 1≤_; omega,by rw [e5]; omega,by rw [e1,e2]; omega,by rw [e2]; push_cast; omega⟩,h.fr.trans hf fun i hi=>.inr (h.low i (.inl (.inr ⟨_,hpm,hi⟩))),fun i hi=>?_⟩,rfl,d',?_,e1,e2,e3⟩
  ·rw [e3] at hb; rw [List.mem_singleton.1 hb]; exact zCq (by omega) (by omega)
  ·have hsz:=h.fr.size
   rcases hi with (hi | ⟨x,hx,hi⟩) | hi
   ·exact h.low i (.inl (.inl hi))
   ·obtain ⟨y,hy,rfl⟩:=List.mem_map.1 hx
    by_cases e:y.1=p
    ·rw [if_pos e] at hi
     rcases hT i hi with h1 | h1
     ·exact h.low i (.inl (.inr ⟨_,hpm,h1⟩))
     ·omega
    ·rw [if_neg e] at hi
     exact h.low i (.inl (.inr ⟨y,hy,hi⟩))
   ·exact h.low i (.inr hi)
  ·exact zWj hfp ⟨v,hv,by rw [←hid,←hix]⟩
theorem zIj:yF 0 0 [xJ 0] 0 []=[xJ 0]:=by
 rw [uM (show ¬(xJ 0).base+(xJ 0).span≤0 by decide) (fun h=>by simp at h)];rfl
end
section
variable {H:Type} {enc:TypeId × Value→H} {W W':World} {spare:Nat→Bool} {held:Bool}
theorem zSp {m:Nat} {cs:List Value} {x:DataW H × List MemPlace} (h:DataW.trod enc Tryz.prog W 0 spare held m 52 cs=some x) (hl:cs.length=21) (hw:∀n∈x.1.weights Tryz.prog 52,n≤reachBytes):
  ∃q ks tl rv kv tv now,cs.toArray=(zT q rv kv tv).push (.int .i64 now)∧zIq W q ks tl rv kv tv:=by
 obtain ⟨xs,n',_,hx,hcl,hxl,hf2⟩:=DataW.trod_struct Tryz.underlying52 h;have hx2:xs.length=2:=hxl.trans (by kernel_rfl);clear hxl
 match cs,hl,xs,hx2 with
 | [v0,v1,v2,v3,v4,v5,v6,v7,v8,v9,v10,v11,v12,v13,v14,v15,v16,v17,v18,v19,v20],_,[y0,y1],_=>
  have t0:=hf2 0;have t1:=hf2 1;simp [q3,q50e] at t0 t1;subst hx;obtain ⟨now,e1,-,-⟩:=DataW.trod_int Tryz.underlying3 t1;simp only [List.cons.injEq,and_true] at e1;subst e1;obtain ⟨q,ks,tl,rv,kv,tv,he,hR⟩:=zSe t0 rfl fun n hn=>hw n (by
   simp only [DataW.weights,Tryz.underlying52];exact DataW.weights_mem_each (j:=0) rfl rfl n hn)
  refine ⟨q,ks,tl,rv,kv,tv,now,?_,hR⟩;rw [←he];rfl
structure AskD where
 q:Req
 ks:Fst
 tl:List ByteArray
 rv:Value
 kv:Value
 tv:Value
 now:Int
def zPq (W:World) (v:Value) (l:List AskD):Prop:=∃oa cap,v=.slice oa l.length cap∧l.length≤maxLen∧∀(i:Nat) (x:AskD),l[i]?=some x→∃a:Addr,oa=some a∧zIq W x.q x.ks x.tl x.rv x.kv x.tv∧∀(j:Nat) (v:Value),((zT x.q x.rv x.kv x.tv).push (.int .i64 x.now))[j]?=some v→W.cell? ((a.add (i * 21)).add j)=some v
theorem q52e:Tryz.prog.cellsOf 52=21:=by kernel_rfl
theorem zUj {m:Nat} {v:Value} {y:DataW H × List MemPlace} (h:DataW.trod enc Tryz.prog W 0 spare held m 49 [v]=some y) (hw:∀n∈y.1.weights Tryz.prog 49,n≤reachBytes):∃l,zPq W v l:=by
 rcases DataW.trod_slice Tryz.underlying49 h with ⟨h0,-⟩ | ⟨a,len,cap,elems,rest,n,-,h0,hy,-,hl,hcm,hlen,hel,-,-⟩
 ·injection h0 with h0 _
  exact ⟨[],none,0,h0,Nat.zero_le _,fun i x hi=>by simp at hi⟩
 ·injection h0 with h0 _
  subst h0;obtain ⟨l,hll,hp⟩:=jw (n:=len) (p:=fun i (x:AskD)=>zIq W x.q x.ks x.tl x.rv x.kv x.tv∧∀(j:Nat) (v:Value),((zT x.q x.rv x.kv x.tv).push (.int .i64 x.now))[j]?=some v→W.cell? ((a.add (i * 21)).add j)=some v) fun i hi=>by
   obtain ⟨cs,z,hc,ht,hz⟩:=zLo hlen hel hi;rw [q52e] at hc;have hcl:cs.length=21:=by
    obtain ⟨xs,n',_,_,hcl,_,_⟩:=DataW.trod_struct Tryz.underlying52 ht;rw [q52e] at hcl;exact hcl
   obtain ⟨q,ks,tl,rv,kv,tv,now,he,hR⟩:=zSp ht hcl fun n hn=>hw n (by
    have h1:n∈DataW.weightsAll Tryz.prog 52 (elems.map (·.1)):=ky (List.mem_map_of_mem hz) _ hn;rw [hy];simp [DataW.weights,Tryz.underlying49];exact .inr (.inl h1))
   obtain ⟨-,-,hg⟩:=World.cells?_some hc;refine ⟨⟨q,ks,tl,rv,kv,tv,now⟩,hR,fun j v hj=>?_⟩;dsimp only at hj;rw [←he] at hj;have hjl:j < 21:=by
    have:=(Array.getElem?_eq_some_iff.1 hj).1
    simpa [hcl] using this
   have g:=hg j hjl;rw [g]
   simpa using hj
  exact ⟨l,some a,cap,by rw [hll],by omega,fun i x hx=>⟨a,rfl,hp i x hx⟩⟩
end
section
variable {w w':World} {S:Nat→Prop}
theorem zSq {c:World} {b:Nat} {vs:List Value} {t:TypeId} (h:c.heap[b]?=some (.cells vs.toArray t (0,0))):∀(j:Nat) (v:Value),vs[j]?=some v→c.cell? ((⟨b,0,none⟩:Addr).add j)=some v:=by
 intro j v hv;have hadd:(⟨b,0,none⟩:Addr).add j=⟨b,j,none⟩:=by unfold Addr.add; split <;> simp_all
 rw [hadd,zB h j]
 simpa using hv
theorem box50 (w:World) (cs:Array Value):Fr (fun _=>False) w ((w.alloc (.cells #[.int .i64 0,.string ⟨#[]⟩,.int .i64 0,.int .i64 0,.int .i64 0,.bool false,.int .i64 0,.int .i64 0,.int .i64 0,.int .i64 0,.int .i64 0,.slice none 0 0,.int .i64 0,.string ⟨#[]⟩,.string ⟨#[]⟩,.slice none 0 0,.string ⟨#[]⟩,.int .i64 0,.int .i64 0,.slice none 0 0] 50)).setRow w.heap.size cs)∧((w.alloc (.cells #[.int .i64 0,.string ⟨#[]⟩,.int .i64 0,.int .i64 0,.int .i64 0,.bool false,.int .i64 0,.int .i64 0,.int .i64 0,.int .i64 0,.int .i64 0,.slice none 0 0,.int .i64 0,.string ⟨#[]⟩,.string ⟨#[]⟩,.slice none 0 0,.string ⟨#[]⟩,.int .i64 0,.int .i64 0,.slice none 0 0] 50)).setRow w.heap.size cs).heap[w.heap.size]?=some (.cells cs 50 (0,0)):=
 ⟨zZ ((Fr.same w).alloc _) (.inr (Nat.le_refl _)) _,setRow_heap _ _ _ _ 50 (0,0) (zC w _)⟩
theorem vH.same {w0:World} {m:zG} {c:zO} {k:Nat} (h:vH w0 w m c k) (hf:Fr (fun _=>False) w w'):vH w0 w' m c k:=⟨h.mi.old hf,h.fr.tr hf,h.low⟩
def zEh (m:zG) (ix E T:Int):Prop:=(E= -1∧T=0)∨∃d,zU m aS ix=some d∧E≤d.en∧T≤d.st
theorem zSr {w0:World} {m:zG} {c:zO} {k:Nat} (h:vH w0 w m c k) (ix:Int):zEh m ix (kG m aS ix) 0:=by
 unfold zEh kG;cases hd:zU m aS ix with
 | none=>exact .inl ⟨rfl,rfl⟩
 | some d=>
  obtain ⟨p,hpm,-⟩:=yU hd;exact .inr ⟨d,rfl,Int.le_refl _,(h.mi.part _ hpm).1.st.1⟩
theorem zZe {w0:World} {q:Req} {m m':zG} {c:zO} {k:Nat} {ix E T:Int} (h:vH w0 w m' c k) (hE:zEh m ix E T) (hs:uP q m m') (hq:q.kind≠2):
  E≤kG m' aS ix∧((kG m' aS ix < 0∧zEh m' ix (kG m' aS ix) T)∨∃d,zU m' aS ix=some d∧kG m' aS ix=d.en∧0≤d.en∧T≤d.st∧d.st≤d.en):=by
 unfold zEh kG;cases hd:zU m' aS ix with
 | none=>
  rcases hE with ⟨rfl,rfl⟩ | ⟨d,h1,-,-⟩
  ·exact ⟨Int.le_refl _,.inl ⟨by decide,.inl ⟨rfl,rfl⟩⟩⟩
  ·rcases hs aS ix d h1 with h2 | ⟨d',h2,-⟩
   ·exact absurd h2.1 hq
   ·rw [hd] at h2; cases h2
 | some d=>
  obtain ⟨p,hpm,-⟩:=yU hd;have hp:=(h.mi.part _ hpm).1.st;dsimp only at hp ⊢;rcases hE with ⟨rfl,rfl⟩ | ⟨d0,h1,h3,h4⟩
  ·exact ⟨by omega,.inr ⟨d,rfl,rfl,by omega,hp.1,hp.2⟩⟩
  ·rcases hs aS ix d0 h1 with h2 | ⟨d',h2,h5,h6,-⟩
   ·exact absurd h2.1 hq
   ·rw [hd] at h2
    obtain rfl:=Option.some.inj h2;exact ⟨by omega,.inr ⟨d,rfl,rfl,by omega,by omega,hp.2⟩⟩
theorem zZf (l:List AskD) (v:Value) (ix:Int) (w:World) (hl:zPq w v l) (hix:(Lit.int .i64 ix).wf=true) (hst:zc w) (hcw:ja w):
  Calls Tryz.prog 5 #[v,.int .i64 ix] w fun e w'=>e=.returned (.bool true)∧Fr (fun _=>False) w w':=by
 obtain ⟨oa,cap,rfl,hml,hab⟩:=id hl;have BL:=zz hab;have ML:=zz hml;have ST:=zz hst;have CW:=zz hcw;have IX:=zz hix;clear hl hst hcw hab hix hml;have LV:=zz (fun (w1:World) (f:Fr (fun _=>False) w w1)=>zIi (ST.out.old f) (xf _ _ CW.out f));have SN:=zz (zCa (w:=w) 10 10 (by omega) (by omega) (by have:=CW.out.2; omega));go_enter Tryz.func5,Tryz.ntmps5
 go_wp2_with fail
 refine SN.out.mono ?_;intro e w1 hs;obtain ⟨m0,c0,rfl,hL0,-,-⟩:=zPp (Fr.same w) hs;have L0:=zz hL0;have C1:=zZd L0.out (by omega) ST.out CW.out (kind:=1) (nm:=aS) (ix:=0) (count:=3) (from':=0) (vm (by omega) (by decide) (by omega) (by omega) (by omega)).wf 1;obtain ⟨mb,hm0⟩:∃mb,m0.mb=mb:=⟨_,rfl⟩;rw [hm0] at C1 ⊢;have HM0:=zz hm0;clear hm0;unfold jh aS at C1;replace C1:=zz C1;clear hL0 hs SN;go_wp2_with fail
 refine C1.out.mono ?_;rintro e w2 ⟨⟨v2,rfl⟩,m1,c1,hL1,hmb1,-⟩;have L1:=zz hL1;have E1:=vj L1.out.mi.a aS ix (by decide) IX.out;have EO:=zz (zSr L1.out ix);rw [hmb1,HM0.out] at E1;obtain ⟨E0,hE0⟩:∃E0,E0=kG m1 aS ix:=⟨_,rfl⟩;rw [←hE0] at E1 EO;unfold aS at E1;replace E1:=zz E1;have HMB:=zz (hmb1.trans HM0.out);clear hL1 hmb1 C1 L0 hE0;go_wp2_with fail
 refine E1.out.mono ?_;rintro e w3 ⟨rfl,f3⟩;have L3:=zz (L1.out.same f3);clear f3 E1 L1;go_wp2_with fail
 go_loopw [7,8,9] (fun en s i wr=>∃(k:Nat) (m:zG) (c:zO) (E T:Int),i=.int .i64 k∧en=.int .i64 E∧s=.int .i64 T∧k≤l.length∧vH w wr m c (k+1)∧m.mb=mb∧zEh m ix E T) (fun _ _ i _=>l.length - (intOf i).toNat)
 case atStart=>exact ⟨0,m1,c1,E0,0,rfl,rfl,rfl,Nat.zero_le _,L3.out,HMB.out,EO.out⟩
 case round=>
  obtain ⟨k,m,c,E,T,rfl,rfl,rfl,hk,hF,hmb,hE⟩:=hrel;have FS:=zz hF;have HMB:=zz hmb;have HE:=zz hE;clear hF hmb hE L3 EO;rcases Nat.lt_or_ge k l.length with hlt | hge
  ·by_cases h40:k < 40
   ·have h4i:(k:Int) < 40:=by omega
    obtain ⟨⟨q,ks,tl,rv,kv,tv,now⟩,hx⟩:=zH hlt;obtain ⟨a,hoa,hR,hc⟩:=BL.out k _ hx;subst hoa;dsimp only at hR hc;obtain ⟨ro,rc,rfl,-⟩:=id hR.recs;obtain ⟨ko,kc,rfl,-⟩:=id hR.kids;obtain ⟨to,tc,rfl,-⟩:=id hR.tops;have HR:=zz hR;have AC:=zz (fun (w':World) (hf:Fr (fun _=>False) w w') (j:Nat) (v:Value) hj=>hf.cel (hc j v hj));have lq:∀(j:Nat) (v:Value),[.int .i64 q.kind,.string q.name,.int .i64 q.index,.int .i64 q.count,.int .i64 q.from',.bool q.flag,.int .i64 q.bat.base,.int .i64 q.bat.span,.int .i64 q.bat.prod,.int .i64 q.bat.epoch,.int .i64 q.bat.seq,.slice ro q.bat.recs.length rc,.int .i64 q.fop,.string q.fnm,.string q.fvl,.slice ko ks.len kc,.string q.group,.int .i64 q.member,.int .i64 q.gen,.slice to tl.length tc][j]?=some v→wr.cell? ((a.add (k * 21)).add j)=some v:=fun j v hv=>AC.out wr FS.out.fr j v (by
     have hj:j < 20:=(List.getElem?_eq_some_iff.1 hv).1;have hj2:j < (zT q (.slice ro q.bat.recs.length rc) (.slice ko ks.len kc) (.slice to tl.length tc)).size:=hj;rw [Array.getElem?_push_lt hj2,←Array.getElem?_eq_getElem hj2];unfold zT;rw [List.getElem?_toArray];exact hv)
    obtain ⟨bf,bx⟩:=box50 wr #[.int .i64 q.kind,.string q.name,.int .i64 q.index,.int .i64 q.count,.int .i64 q.from',.bool q.flag,.int .i64 q.bat.base,.int .i64 q.bat.span,.int .i64 q.bat.prod,.int .i64 q.bat.epoch,.int .i64 q.bat.seq,.slice ro q.bat.recs.length rc,.int .i64 q.fop,.string q.fnm,.string q.fvl,.slice ko ks.len kc,.string q.group,.int .i64 q.member,.int .i64 q.gen,.slice to tl.length tc];have hz:=zC wr (.cells #[.int .i64 0,.string ⟨#[]⟩,.int .i64 0,.int .i64 0,.int .i64 0,.bool false,.int .i64 0,.int .i64 0,.int .i64 0,.int .i64 0,.int .i64 0,.slice none 0 0,.int .i64 0,.string ⟨#[]⟩,.string ⟨#[]⟩,.slice none 0 0,.string ⟨#[]⟩,.int .i64 0,.int .i64 0,.slice none 0 0] 50);have X5:=zz bx;have F5:=zz (FS.out.fr.tr bf);have SM:=zz (zEv q ro q.bat.recs.length rc (.slice ko ks.len kc) to tl.length tc ks (hR.recs.old F5.out) (hR.kids.old F5.out) fun i hi=>Nat.lt_of_lt_of_le hi F5.out.size);have L5:=zz (FS.out.same bf);unfold zT at SM;clear bf hc hR hx;go_wp2_with (first | (refine kx rfl 50 _ rfl (a.add (k * 21)) rfl [.int .i64 q.kind,.string q.name,.int .i64 q.index,.int .i64 q.count,.int .i64 q.from',.bool q.flag,.int .i64 q.bat.base,.int .i64 q.bat.span,.int .i64 q.bat.prod,.int .i64 q.bat.epoch,.int .i64 q.bat.seq,.slice ro q.bat.recs.length rc,.int .i64 q.fop,.string q.fnm,.string q.fvl,.slice ko ks.len kc,.string q.group,.int .i64 q.member,.int .i64 q.gen,.slice to tl.length tc] _ lq Tryz.underlying50 rfl (by kernel_rfl) ?_) | (refine wpList_store_row rfl 50 _ _ rfl wr.heap.size #[.int .i64 q.kind,.string q.name,.int .i64 q.index,.int .i64 q.count,.int .i64 q.from',.bool q.flag,.int .i64 q.bat.base,.int .i64 q.bat.span,.int .i64 q.bat.prod,.int .i64 q.bat.epoch,.int .i64 q.bat.seq,.slice ro q.bat.recs.length rc,.int .i64 q.fop,.string q.fnm,.string q.fvl,.slice ko ks.len kc,.string q.group,.int .i64 q.member,.int .i64 q.gen,.slice to tl.length tc] rfl rfl 50 _ hz (by kernel_rfl) rfl (zLm q rfl rfl rfl) ?_) | (refine wpList_load_row rfl 50 _ rfl wr.heap.size rfl 50 _ (0,0) _ bx Tryz.underlying50 rfl (by kernel_rfl) ?_))
    clear lq hz bx;generalize ((wr.alloc (.cells #[.int .i64 0,.string ⟨#[]⟩,.int .i64 0,.int .i64 0,.int .i64 0,.bool false,.int .i64 0,.int .i64 0,.int .i64 0,.int .i64 0,.int .i64 0,.slice none 0 0,.int .i64 0,.string ⟨#[]⟩,.string ⟨#[]⟩,.slice none 0 0,.string ⟨#[]⟩,.int .i64 0,.int .i64 0,.slice none 0 0] 50)).setRow wr.heap.size #[.int .i64 q.kind,.string q.name,.int .i64 q.index,.int .i64 q.count,.int .i64 q.from',.bool q.flag,.int .i64 q.bat.base,.int .i64 q.bat.span,.int .i64 q.bat.prod,.int .i64 q.bat.epoch,.int .i64 q.bat.seq,.slice ro q.bat.recs.length rc,.int .i64 q.fop,.string q.fnm,.string q.fvl,.slice ko ks.len kc,.string q.group,.int .i64 q.member,.int .i64 q.gen,.slice to tl.length tc])=w4 at *;refine SM.out.mono ?_;rintro e w5 ⟨⟨b,rfl⟩,f5⟩;have F6:=zz (F5.out.tr f5);have X6:=zz (blk X5.out f5 fun h=>h);have L6:=zz (L5.out.same f5);clear f5 SM X5 F5 L5;cases b with
    | false=>
     go_wp2_with fail
     refine (LV.out _ F6.out).mono ?_;rintro e w10 ⟨rfl,f10⟩;have F10:=zz (F6.out.tr f10);clear f10;go_wp2_with fail
     go_ret
     exact ⟨rfl,F10.out⟩
    | true=>
     have d0:=(zB X6.out 0).trans (show _=some (Value.int .i64 q.kind) from rfl);by_cases hk2:q.kind=2
     ·go_wp2_with fail
      refine (LV.out _ F6.out).mono ?_;rintro e w10 ⟨rfl,f10⟩;have F10:=zz (F6.out.tr f10);clear f10;go_wp2_with fail
      go_ret
      exact ⟨rfl,F10.out⟩
     ·have HK2:=zz hk2
      have z20:∀y:Lcl.InS (fun w'=>Fr (fun _=>False) w5 w'),y.w.cell? ⟨(a.add (k * 21)).block,(a.add (k * 21)).off+20,none⟩=some (.int .i64 now):=fun y=>y.h.cel (by rw [←kL _ 20 (by omega)]; exact AC.out w5 F6.out 20 _ rfl)
      have AW:=zz (fun w'=>zHc (w:=w') q ro q.bat.recs.length rc ko ks.len kc to tl.length tc);have DN:=zz (show ∀w',Fr (fun _=>False) w5 w'→Calls Tryz.prog 12 #[.pointer (some ⟨mb,0,none⟩),.agg (zT q (.slice ro q.bat.recs.length rc) (.slice ko ks.len kc) (.slice to tl.length tc)),.int .i64 now] w' (zDk w m (k+1) q) from fun w' hf=>by
       have h:=zFz (L6.out.same hf) (by omega) ST.out CW.out q ks tl _ _ _ HR.out now;rw [HMB.out] at h;exact h)
      unfold zT at AW DN;go_wp2_with fail
      refine Lcl.wp_region_calm (by kernel_rfl) [(true,[0,3,4,5,6]),(false,[1,7])] #[0,0,2,0,0,24,56,120,255] [0,1,2,3,4,5,6,7] 2 #[true,true,false,true,true,true,true,true,false] (by kernel_rfl) (by kernel_rfl) (by kernel_rfl) (fun w'=>Fr (fun _=>False) w5 w') (Fr.same w5).drew (fun d c a v w h=>by cases d <;> exact h) ?_;simp only [Lcl.opsOf,List.map_cons,List.map_nil,List.getElem?_toArray,List.getElem?_cons_succ,List.getElem?_cons_zero,Option.getD_some];refine Lcl.wpCalm_t ?_
      repeat (go_big_quiet_step (rfl))
      refine wpQuiet_nil ?_;refine Lcl.wpCalm_f ?_;refine uW rfl 50 (.tmp 10) rfl ⟨wr.heap.size,0,none⟩ rfl [.int .i64 q.kind,.string q.name,.int .i64 q.index,.int .i64 q.count,.int .i64 q.from',.bool q.flag,.int .i64 q.bat.base,.int .i64 q.bat.span,.int .i64 q.bat.prod,.int .i64 q.bat.epoch,.int .i64 q.bat.seq,.slice ro q.bat.recs.length rc,.int .i64 q.fop,.string q.fnm,.string q.fvl,.slice ko ks.len kc,.string q.group,.int .i64 q.member,.int .i64 q.gen,.slice to tl.length tc] _ ?hc Tryz.underlying50 rfl (by kernel_rfl) ?_
      case hc=>rintro c ⟨y,rfl⟩; exact zSq (blk X6.out y.h fun h=>h)
      simp only [Act.put,List.setIfInBounds_toArray,List.set_cons_succ,List.set_cons_zero]
      repeat (go_big_quiet_step (rfl))
      refine wpQuiet_nil ?_;refine Lcl.wpCalm_nil ?_;clear z20;refine Lcl.wpG_one 2 rfl (by kernel_rfl) ?_;go_wp2_with fail
      refine (AW.out _).mono ?_;rintro e w7 ⟨rfl,f7⟩;have D7:=zz ((Fr.same w5).drew.tr f7);have DN7:=zz (DN.out _ D7.out);clear f7 DN AW;go_wp2_with fail
      refine ⟨fun _ _=>D7.out,?_⟩;refine Lcl.wpG_run [8] _ _ _ (by kernel_rfl) ?_;simp only [List.map_cons,List.map_nil,List.getElem?_toArray,List.getElem?_cons_succ,List.getElem?_cons_zero,Option.getD_some];go_wp2_with fail
      refine DN7.out.mono ?_;rintro e w8 ⟨⟨v8,rfl⟩,m8,c8,hL8,hmb8,hs8⟩;have L8:=zz hL8;have HMB8:=zz (hmb8.trans HMB.out);clear hL8 hmb8 DN7 D7 L6 F6 X6;have EN:=zz (zZe L8.out HE.out hs8 HK2.out);have E8:=vj L8.out.mi.a aS ix (by decide) IX.out;rw [HMB8.out] at E8;obtain ⟨E9,hE9⟩:∃E9,E9=kG m8 aS ix:=⟨_,rfl⟩;rw [←hE9] at E8 EN;unfold aS at E8;replace E8:=zz E8;clear hE9 hs8 HE;go_wp2_with fail
      refine E8.out.mono ?_;rintro e w9 ⟨rfl,f9⟩;have L9:=zz (L8.out.same f9);clear f9 L8 E8;obtain ⟨hle,hcase⟩:=EN.out;clear EN;have hle2:¬E9 < E:=by omega
      rcases hcase with ⟨hneg,hE9⟩ | ⟨d,hd,heq,h0,hT,hse⟩
      ·have HE9:=zz hE9
       clear hE9 hle;go_wp2_with fail
       go_roundw
       case rel=>exact ⟨k+1,m8,c8,E9,T,by go_num,rfl,rfl,by omega,L9.out,HMB8.out,HE9.out⟩
       case measure=>simp [intOf]; omega
      ·have hpos:¬E9 < 0:=by omega
       have hst9:¬d.st < T:=by omega
       subst heq;have FT:=zEg L9.out ST.out CW.out (by omega) (nm:=aS) (by decide) hd (a:=d.en) ⟨hse,Int.le_refl _⟩;rw [HMB8.out] at FT;unfold jh aS at FT;replace FT:=zz FT;have HD:=zz hd;clear hd h0 hT hse hle;go_wp2_with fail
       refine FT.out.mono ?_;rintro e wa ⟨bv,rfl,hba,fa⟩;obtain ⟨ob,cb,rfl,-⟩:=id hba;generalize (yF d.en 0 d.bats 0 []).length=nb at *;have HZ:=zC wa (.cells #[.int .i64 0,.int .i64 0,.int .i64 0,.int .i64 0,.int .i64 0,.int .i64 0,.int .i64 0,.slice none 0 0,.slice none 0 0,.slice none 0 0] 31);obtain ⟨bf,bx⟩:=zEu wa (zS 0 0 d.st d.en 0 0 0 (.slice ob nb cb) (.slice none 0 0) (.slice none 0 0));have LA:=zz ((L9.out.same fa).same bf);have y0:=(zB bx 0).trans (show _=some (Value.int .i64 0) from rfl);have y2:=(zB bx 2).trans (show _=some (Value.int .i64 d.st) from rfl);have y3:=(zB bx 3).trans (show _=some (Value.int .i64 d.en) from rfl);clear bf bx hba fa FT L9;go_wp2_with (refine zzq rfl _ _ rfl wa.heap.size 0 0 d.st d.en (.slice ob nb cb) rfl rfl rfl _ HZ rfl ?_)
       go_roundw
       case rel=>exact ⟨k+1,m8,c8,d.en,d.st,by go_num,rfl,rfl,by omega,LA.out,HMB8.out,.inr ⟨d,HD.out,Int.le_refl _,Int.le_refl _⟩⟩
       case measure=>simp [intOf]; omega
   ·have h4i:¬(k:Int) < 40:=by omega
    go_wp2_with fail
    refine (LV.out _ FS.out.fr).mono ?_;rintro e w10 ⟨rfl,f10⟩;have F10:=zz (FS.out.fr.tr f10);clear f10;go_wp2_with fail
    go_ret
    exact ⟨rfl,F10.out⟩
  ·obtain rfl:k=l.length:=by omega
   go_wp2_with fail
   refine (LV.out _ FS.out.fr).mono ?_;rintro e w10 ⟨rfl,f10⟩;have F10:=zz (FS.out.fr.tr f10);clear f10;go_wp2_with fail
   go_ret
   exact ⟨rfl,F10.out⟩
end
end Go.Proofs.YtfdhofabgdkkkaaGreatDoor
