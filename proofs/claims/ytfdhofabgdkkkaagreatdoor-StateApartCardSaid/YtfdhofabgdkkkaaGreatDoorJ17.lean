/- A part of the proof that what the machine is told keeps its bounds. -/
import Derived.Test.YtfdhofabgdkkkaaGreatDoorJ16
import Derived.Laws.EntriesVeiled
set_option maxHeartbeats 128000000
set_option maxRecDepth 100000
namespace Go.Proofs.YtfdhofabgdkkkaaGreatDoor
open Lib renaming hid→zz
open Go.RowKit Go.Fm Go.BigFrame Go.Shelf Go.Maps
set_option linter.unusedVariables false
set_option linter.unusedSimpArgs false
section
variable {w w':World} {cb xb:Nat} {s:ByteArray} {bad:Bool} {S:Nat→Prop}
def zDx (t:ByteArray) (ok:Bool):Value:=if ok then .tuple #[.string t,.int .i64 0] else .tuple #[.string ByteArray.empty,.int .i64 1]
def FilG (w:World) (q:Req) (rv kv tv:Value) (ft:ByteArray) (fok:Bool):Prop:=∀(w':World) (cb xb:Nat),Fr (fun _=>False) w w'→w.heap.size≤cb→w.heap.size≤xb→xb≠cb→zCp w' xb q rv kv tv→FilC w' cb xb ft fok
def TopG (w:World) (q:Req) (rv kv tv:Value) (lt:ByteArray) (lok:Bool):Prop:=∀(w':World) (cb xb:Nat),Fr (fun _=>False) w w'→w.heap.size≤cb→w.heap.size≤xb→xb≠cb→zCp w' xb q rv kv tv→TopC w' cb xb lt lok
structure xM (w:World) (q:Req) (rv kv tv:Value) (K:Nat→Prop) (ft lt:ByteArray) (fok lok:Bool):Prop where
 recs:xE K w rv q.bat.recs
 old:∀i,K i→i < w.heap.size
 wf:zBf q
 steps:zc w
 fts:ft.size≤200000000000000
 fil:FilG w q rv kv tv ft fok
 top:TopG w q rv kv tv lt lok
noncomputable def zy (q:Req) (ft lt:ByteArray) (fok lok:Bool):Bool:=!reqB false q fok lok && decide ((yQ ByteArray.empty q ft lt).size≤60000)
theorem zLh (q:Req) (rv kv tv:Value) (K:Nat→Prop) (ft lt:ByteArray) (fok lok:Bool) (h:xM w q rv kv tv K ft lt fok lok):
  Calls Tryz.prog 67 #[.agg (zT q rv kv tv),.func (.func 68) #[] #[]] w fun e w'=>e=.returned (zDx (yQ ByteArray.empty q ft lt) (zy q ft lt fok lok))∧Fr (fun _=>False) w w':=by
 have f1:=(Fr.same w).alloc (.cells (zT q rv kv tv) 41);have x1:zCp _ w.heap.size q rv kv tv:=⟨zC w (.cells (zT q rv kv tv) 41)⟩;have f2:=(Fr.same (w.alloc (.cells (zT q rv kv tv) 41))).alloc (.cells #[.string ⟨#[]⟩,.int .i64 0,.bool false,.bool false] 221);have x2:=x1.old f2;have s2:(w.alloc (.cells (zT q rv kv tv) 41)).heap.size=w.heap.size+1:=by simp
 have cd:jQ ((w.alloc (.cells (zT q rv kv tv) 41)).alloc (.cells #[.string ⟨#[]⟩,.int .i64 0,.bool false,.bool false] 221)) (w.heap.size+1) ByteArray.empty false:=by rw [←s2]; exact zC (w.alloc (.cells (zT q rv kv tv) 41)) (.cells #[.string ⟨#[]⟩,.int .i64 0,.bool false,.bool false] 221)
 have f12:=f1.tr f2;have CW:=zz (zIo cd q rv kv tv x2 K (h.recs.old f12) (fun hk=>by have:=h.old _ hk; omega) (by omega) (by omega) h.wf (Nat.zero_le _) (h.steps.old f12) ft lt fok lok h.fts (h.fil _ _ _ f12 (by omega) (Nat.le_refl _) (by omega) x2) (h.top _ _ _ f12 (by omega) (Nat.le_refl _) (by omega) x2));have F:=zz f12;clear f1 x1 f2 x2 cd f12 h;unfold zT at *;go_enter Tryz.func67,Tryz.ntmps67
 go_wp2_with fail
 generalize ((w.alloc (.cells #[.int .i64 q.kind,.string q.name,.int .i64 q.index,.int .i64 q.count,.int .i64 q.from',.bool q.flag,.int .i64 q.bat.base,.int .i64 q.bat.span,.int .i64 q.bat.prod,.int .i64 q.bat.epoch,.int .i64 q.bat.seq,rv,.int .i64 q.fop,.string q.fnm,.string q.fvl,kv,.string q.group,.int .i64 q.member,.int .i64 q.gen,tv] 41)).alloc (.cells #[.string ⟨#[]⟩,.int .i64 0,.bool false,.bool false] 221))=W at *;refine CW.out.mono ?_;rintro e w3 ⟨rfl,⟨s3,h3,heq,hsz⟩,f3⟩;have F3:=zz (((F.out.mono (S':=fun i=>i=w.heap.size+1) fun _ h=>h.elim).trans f3 fun _ h=>.inl h).mono (S':=fun _=>False) fun i e=>.inr (by omega));have dd:=fun j=>zB h3 j
 have L1:=hsz;clear f3 CW h3 s2;generalize hS:yQ ByteArray.empty q ft lt=T at *;have HS:=zz hS;clear hS;cases hB:reqB false q fok lok with
 | true=>
  have OK:=zz (show zy q ft lt fok lok=false by unfold zy; rw [hB]; rfl);rw [hB] at dd;clear hB;go_wp2_with fail
  go_ret2
  rw [HS.out,OK.out];exact ⟨rfl,F3.out⟩
 | false=>
  rw [hB] at dd;obtain rfl:T=s3:=(heq hB).symm;by_cases hl:T.size≤60000
  ·have OK:=zz (show zy q ft lt fok lok=true by unfold zy; rw [hB,HS.out,decide_eq_true hl]; rfl)
   have h5:decide ((60000:Int) < (T.size:Int))=false:=decide_eq_false (by omega);clear hB;go_wp2_with fail
   go_ret2
   rw [HS.out,OK.out];exact ⟨rfl,F3.out⟩
  ·have OK:=zz (show zy q ft lt fok lok=false by unfold zy; rw [hB,HS.out,decide_eq_false hl]; rfl)
   have h5:decide ((60000:Int) < (T.size:Int))=true:=decide_eq_true (by omega);have h6:(60000:Int) < (T.size:Int):=by omega
   clear hB hl;go_wp2_with fail
   go_ret2
   rw [HS.out,OK.out];exact ⟨rfl,F3.out⟩
theorem zNk (v0 v1 v2 v3 v4 v5 v6 v7 v8 v9 v10 v11 v12 v13 v14 v15 v16 v17 v18 v19:Value) (T:ByteArray) (ok:Bool)
  (h:Calls Tryz.prog 67 #[.agg #[v0,v1,v2,v3,v4,v5,v6,v7,v8,v9,v10,v11,v12,v13,v14,v15,v16,v17,v18,v19],.func (.func 68) #[] #[]] (w.alloc (.cells #[v0,v1,v2,v3,v4,v5,v6,v7,v8,v9,v10,v11,v12,v13,v14,v15,v16,v17,v18,v19] 41)) fun e w'=>e=.returned (zDx T ok)∧Fr (fun _=>False) (w.alloc (.cells #[v0,v1,v2,v3,v4,v5,v6,v7,v8,v9,v10,v11,v12,v13,v14,v15,v16,v17,v18,v19] 41)) w'):
  Calls Tryz.prog 31 #[.agg #[v0,v1,v2,v3,v4,v5,v6,v7,v8,v9,v10,v11,v12,v13,v14,v15,v16,v17,v18,v19]] w fun e w'=>e=.returned (zDx T ok)∧Fr (fun _=>False) w w':=by
 have f1:=(Fr.same w).alloc (.cells #[v0,v1,v2,v3,v4,v5,v6,v7,v8,v9,v10,v11,v12,v13,v14,v15,v16,v17,v18,v19] 41);have CW:=zz h;have hx:=zC w (.cells #[v0,v1,v2,v3,v4,v5,v6,v7,v8,v9,v10,v11,v12,v13,v14,v15,v16,v17,v18,v19] 41);have F:=zz f1;clear f1 h;go_enter Tryz.func31,Tryz.ntmps31
 go_wp2_with (refine wpList_load_row rfl 41 _ rfl w.heap.size rfl 41 _ (0,0) _ hx Tryz.underlying41 rfl (by kernel_rfl) ?_)
 clear hx;generalize (w.alloc (.cells #[v0,v1,v2,v3,v4,v5,v6,v7,v8,v9,v10,v11,v12,v13,v14,v15,v16,v17,v18,v19] 41))=W at *;refine CW.out.mono ?_;rintro e w3 ⟨rfl,f3⟩;have F3:=zz (F.out.tr f3);clear f3 CW;unfold zDx;cases ok
 all_goals
  simp only [if_true,if_false,Bool.false_eq_true];go_wp2_with fail
  go_ret2
  exact ⟨rfl,F3.out⟩
theorem zBg (q:Req) (rv kv tv:Value) (K:Nat→Prop) (ft lt:ByteArray) (fok lok:Bool) (h:xM w q rv kv tv K ft lt fok lok):
  Calls Tryz.prog 31 #[.agg (zT q rv kv tv)] w fun e w'=>e=.returned (zDx (yQ ByteArray.empty q ft lt) (zy q ft lt fok lok))∧Fr (fun _=>False) w w':=by
 have f1:=(Fr.same w).alloc (.cells (zT q rv kv tv) 41);exact zNk _ _ _ _ _ _ _ _ _ _ _ _ _ _ _ _ _ _ _ _ _ _ (zLh q rv kv tv K ft lt fok lok ⟨h.recs.old f1,fun i hi=>by have:=h.old i hi; simp; omega,h.wf,h.steps.old f1,h.fts,fun w' cb xb hf a1 a2=>h.fil w' cb xb (f1.tr hf) (by simp at a1; omega) (by simp at a2; omega),fun w' cb xb hf a1 a2=>h.top w' cb xb (f1.tr hf) (by simp at a1; omega) (by simp at a2; omega)⟩)
theorem jH (q:Req) (rv kv tv:Value) (K:Nat→Prop) (ft lt:ByteArray) (fok lok:Bool) (h:xM w q rv kv tv K ft lt fok lok) (hlt:(yQ ByteArray.empty q ft lt).size≤2000000000000000):
  Calls Tryz.prog 31 #[.agg (zT q rv kv tv)] w fun e w'=>e=.returned (zDx (yQ ByteArray.empty q ft lt) (zy q ft lt fok lok))∧Fr (fun _=>False) w w':=
 zBg q rv kv tv K ft lt fok lok h
end
section
variable {w w':World} {cb xb:Nat} {s:ByteArray} {bad:Bool} {S:Nat→Prop}
end
section
variable {w w':World} {cb xb:Nat} {s:ByteArray} {bad:Bool} {S:Nat→Prop}
def WrPost (w:World) (bs:List UInt8) (e:Ending) (w':World):Prop:=∃v,e=.returned v∧w'.ownsRow w.heap.size 5 1 v bs.length (bs.map zL)∧Fr (fun _=>False) w w'
end
section
variable {w w':World} {S:Nat→Prop}
theorem gnew_ok (a b:Int) (h:(1≤a∧a≤100000)∧1≤b∧b≤100000):Calls Tryz.prog 65 #[.int .i64 a,.int .i64 b] w fun e w'=>(∃p,e=.returned (.tuple #[.pointer p,.int .i64 0]))∧Fr (fun _=>False) w w':=by
 obtain ⟨⟨h1,h2⟩,h3,h4⟩:=h;have FF:=zz ((Fr.same w).alloc (.cells #[.int .i64 a,.int .i64 b,.int .i64 0,.int .i64 0,.int .i64 0,.int .i64 0,.slice none 0 0] 216));go_enter Tryz.func65,Tryz.ntmps65
 go_wp2_with fail
 go_ret2
 exact ⟨⟨_,rfl⟩,FF.out⟩
theorem zWb:Calls Tryz.prog 65 #[.int .i64 0,.int .i64 0] w fun e w'=>e=.returned (.tuple #[.pointer none,.int .i64 1])∧w'=w:=by
 go_enter Tryz.func65,Tryz.ntmps65
 go_wp2_with fail
 go_ret2
 exact ⟨rfl,rfl⟩
theorem zWc:Calls Tryz.prog 29 #[.int .i64 0,.int .i64 0] w fun e w'=>e=.returned (.tuple #[.pointer none,.int .i64 1])∧w'=w:=by
 go_enter Tryz.func29,Tryz.ntmps29
 go_wp2_with fail
 refine zWb.mono ?_;rintro e w1 ⟨rfl,rfl⟩;go_wp2_with fail
 go_ret2
 exact ⟨rfl,rfl⟩
theorem zWd:Calls Tryz.prog 11 #[.int .i64 0,.int .i64 0] w fun e w'=>e=.returned (.tuple #[.pointer none,.int .i64 1])∧w'=w:=by
 go_enter Tryz.func11,Tryz.ntmps11
 go_wp2_with fail
 refine zWc.mono ?_;rintro e w1 ⟨rfl,rfl⟩;go_wp2_with fail
 go_ret2
 exact ⟨rfl,rfl⟩
structure zR where
 xb:Nat
 st:Int
 en:Int
 bats:List Bat
 bv:Value
 pb:Nat
 F:ur
 n:Nat
 K:Nat→Prop
 S:Nat→Prop
def zR.T (d:zR):Nat→Prop:=fun i=>i=d.xb∨d.bv.ownBlock=some i∨d.K i∨d.S i
structure jT (w:World) (d:zR):Prop where
 b:w.heap[d.xb]?=some (.cells #[.int .i64 d.st,.int .i64 d.en,d.bv,.pointer (some ⟨d.pb,0,none⟩)] 102 (0,0))
 own:za d.K 1 w d.bv d.bats
 prod:je w d.pb d.S d.n d.F
 lt:∀i,d.T i→0 < i∧i < w.heap.size
 x1:d.bv.ownBlock≠some d.xb
 x2:¬d.K d.xb
 x3:¬d.S d.xb
 s1:∀k,d.bv.ownBlock=some k→¬d.S k
 s2:∀k,d.K k→¬d.S k
theorem jT.fr {d:zR} (h:jT w d) (hf:Fr S w w') (hS:∀i,d.T i→¬S i):jT w' d:=
 ⟨(hf.block _ (zA h.b) (hS _ (.inl rfl))).trans h.b,by
  obtain ⟨zs,e,h1,h2⟩:=h.own;refine ⟨zs,e,zl h1 fun k hk=>hf.block k (zK h1 hk).2 (hS _ (.inr (.inl hk))),fun z hz=>(h2 z hz).fr hf fun k hk=>hS _ (.inr (.inr (.inl hk.1)))⟩,
  h.prod.fr hf fun i hi=>hS _ (.inr (.inr (.inr hi))),fun i hi=>⟨(h.lt i hi).1,Nat.lt_of_lt_of_le (h.lt i hi).2 hf.size⟩,h.x1,h.x2,h.x3,h.s1,h.s2⟩
theorem jT.old {d:zR} (h:jT w d) (hf:Fr (fun _=>False) w w'):jT w' d:=h.fr hf fun _ _ h=>h
structure zG where
 mb:Nat
 tb:Nat
 tmb:Nat
 pm:Nat
 tn:Int
 TL:List (ByteArray × Value)
 cv:Value
 next:Int
 L:List (zY × zR)
def jU (L:List (zY × zR)):List (zY × Value):=L.map fun x=>(x.1,.pointer (some ⟨x.2.xb,0,none⟩))
def zG.B (m:zG):Nat→Prop:=fun i=>i=m.mb∨i=m.tb∨i=m.tmb∨i=m.pm
structure zW (w:World) (m:zG):Prop where
 b:w.heap[m.mb]?=some (.cells #[.pointer (some ⟨m.tb,0,none⟩),m.cv,.int .i64 m.next,.map (some m.pm)] 83 (0,0))
 top:uR w m.tb m.tmb m.tn m.TL
 map:xT kf w m.pm (jU m.L)
 n1:m.mb≠m.tb∧m.mb≠m.tmb∧m.mb≠m.pm∧m.tb≠m.pm∧m.tmb≠m.pm
 pos:0 < m.mb∧0 < m.tb∧0 < m.tmb∧0 < m.pm
 part:∀x∈m.L,jT w x.2
 off:∀x∈m.L,∀i,x.2.T i→¬m.B i
 dis:m.L.Pairwise fun x y=>∀i,x.2.T i→¬y.2.T i
 ids:∀r∈m.TL,∃i p,r.2=yq i p∧0≤i∧i < m.tn
 tn:0≤m.tn∧m.tn≤1073741824
 nx:0≤m.next∧m.next≤1073741824
theorem zW.fr {m:zG} (h:zW w m) (hf:Fr S w w') (h1:∀i,m.B i→¬S i) (h2:∀x∈m.L,∀i,x.2.T i→¬S i):zW w' m:=
 ⟨(hf.block _ (zA h.b) (h1 _ (.inl rfl))).trans h.b,h.top.fr hf (h1 _ (.inr (.inl rfl))) (h1 _ (.inr (.inr (.inl rfl)))),h.map.fr hf (h1 _ (.inr (.inr (.inr rfl)))),h.n1,h.pos,fun x hx=>(h.part x hx).fr hf (h2 x hx),h.off,h.dis,h.ids,h.tn,h.nx⟩
theorem zW.old {m:zG} (h:zW w m) (hf:Fr (fun _=>False) w w'):zW w' m:=h.fr hf (fun _ _ h=>h) fun _ _ _ _ h=>h
def NewPost (w:World) (e:Ending) (w':World):Prop:=∃mb tb tmb pm cv,e=.returned (.tuple #[.pointer (some ⟨mb,0,none⟩),.int .i64 0])∧zW w' ⟨mb,tb,tmb,pm,0,[],cv,0,[]⟩∧(w.heap.size≤mb∧w.heap.size≤tb∧w.heap.size≤tmb∧w.heap.size≤pm)∧Fr (fun _=>False) w w'
end
section
variable {w w':World} {S:Nat→Prop}
def jm (v:Value):Int:=match v with | .agg a=>intOf (a.getD 0 undef) | _=>0
theorem jM (i p:Int):jm (yq i p)=i:=rfl
def zt (L:List (zY × zR)) (p:zY):Option zR:=(L.find? fun x=>x.1=p).map (·.2)
def zU (m:zG) (name:ByteArray) (index:Int):Option zR:=(zk m.TL name).bind fun v=>zt m.L ⟨jm v,index⟩
def zFn (o:Option zR):Value:=match o with | some d=>.pointer (some ⟨d.xb,0,none⟩) | none=>.pointer none
theorem zWe (L:List (zY × zR)) (p:zY):(zk (jU L) p).getD (.pointer none)=zFn (zt L p):=by
 unfold zk jU zt;rw [List.find?_map];cases h:L.find? ((fun r:zY × Value=>decide (r.1=p)) ∘ fun x=>(x.1,Value.pointer (some ⟨x.2.xb,0,none⟩))) with
 | none=>
  have h2:L.find? (fun x=>decide (x.1=p))=none:=h;rw [h2]; rfl
 | some x=>
  have h2:L.find? (fun x=>decide (x.1=p))=some x:=h;rw [h2]; rfl
theorem jV {L:List (zY × zR)} {p:zY} {d:zR} (h:zt L p=some d):(p,d)∈L:=by
 unfold zt at h;cases hf:L.find? fun x=>x.1=p with
 | none=>rw [hf] at h; cases h
 | some r=>
  rw [hf] at h;have h1:=List.find?_some hf;have h2:=List.mem_of_find?_eq_some hf;simp at h h1;obtain ⟨a,y⟩:=r;simp at h h1;subst h h1;exact h2
theorem zWf {m:zG} {name:ByteArray} {index:Int} {d:zR} (h:zU m name index=some d):∃p,(p,d)∈m.L:=by
 unfold zU at h;cases hg:zk m.TL name with
 | none=>rw [hg] at h; cases h
 | some v=>rw [hg] at h; exact ⟨_,jV h⟩
theorem zeroPP (w:World):(zeroValue 87).run Tryz.prog w=.ok (.pointer none) w:=by kernel_rfl
theorem jR {m:zG} (h:zW w m) (name:ByteArray) (index:Int) (hn:name.size≤maxLen) (hi:(Lit.int .i64 index).wf=true):Calls Tryz.prog 33 #[.pointer (some ⟨m.mb,0,none⟩),.string name,.int .i64 index] w fun e w'=>e=.returned (zFn (zU m name index))∧Fr (fun _=>False) w w':=by
 have dd:=fun j=>zB h.b j
 have H:=zz h;have HI:=zz hi;have CW:=zz (zGn h.top name hn);clear h hi;go_enter Tryz.func33,Tryz.ntmps33
 go_wp2_with fail
 refine CW.out.mono ?_;rintro e w2 ⟨hcase,hf2⟩;have F2:=zz hf2;have H2:=zz (H.out.old hf2);clear hf2 dd CW;rcases hcase with ⟨i,p,hg,rfl⟩ | ⟨hg,rfl⟩
 ·obtain ⟨i',p',he,h0,h1⟩:=H.out.ids _ (xH hg)
  have he:yq i p=yq i' p':=he;have hii:i=i':=by have:=congrArg jm he; simpa [jM] using this
  subst hii;have ht:=H.out.tn;have PK:zFr ⟨i,index⟩:=⟨by simp [Lit.wf,IntKind.min,IntKind.max,IntKind.signed,IntKind.bits]; omega,HI.out⟩;have hlk:=H2.out.map.look1 zGf Tryz.underlying81 (zeroPP w2) PK;rw [zWe] at hlk;have RES:=zz (show zU m name index=zt m.L ⟨i,index⟩ by unfold zU; rw [hg]; rfl);have dd:=fun j=>zB H2.out.b j
  dsimp only [kf,zBr] at hlk;clear he h0 h1 ht PK hg;cases hf:zt m.L ⟨i,index⟩ with
  | none=>
   rw [hf] at hlk RES;dsimp only [zFn] at hlk;clear hf;go_wp2_with fail
   go_ret
   exact ⟨by rw [RES.out]; rfl,F2.out⟩
  | some d=>
   rw [hf] at hlk RES;dsimp only [zFn] at hlk;clear hf;go_wp2_with fail
   go_ret
   exact ⟨by rw [RES.out]; rfl,F2.out⟩
 ·have RES:=zz (show zU m name index=none by unfold zU; rw [hg]; rfl)
  clear hg;go_wp2_with fail
  go_ret
  exact ⟨by rw [RES.out]; rfl,F2.out⟩
def kG (m:zG) (name:ByteArray) (index:Int):Int:=match zU m name index with | some d=>d.en | none=>-1
theorem vj {m:zG} (h:zW w m) (name:ByteArray) (index:Int) (hn:name.size≤maxLen) (hi:(Lit.int .i64 index).wf=true):Calls Tryz.prog 16 #[.pointer (some ⟨m.mb,0,none⟩),.string name,.int .i64 index] w fun e w'=>e=.returned (.int .i64 (kG m name index))∧Fr (fun _=>False) w w':=by
 have CW:=zz (jR h name index hn hi);have H:=zz h;clear h;go_enter Tryz.func16,Tryz.ntmps16
 go_wp2_with fail
 refine CW.out.mono ?_;rintro e w2 ⟨rfl,hf2⟩;have F2:=zz hf2;have H2:=zz (H.out.old hf2);clear hf2 CW;cases hf:zU m name index with
 | none=>
  have RES:=zz (show kG m name index= -1 by unfold kG; rw [hf]);dsimp only [zFn];clear hf;go_wp2_with fail
  go_ret
  exact ⟨by rw [RES.out]; rfl,F2.out⟩
 | some d=>
  obtain ⟨p,hm⟩:=zWf hf;have dd:=fun j=>zB (H2.out.part _ hm).b j
  have RES:=zz (show kG m name index=d.en by unfold kG; rw [hf]);dsimp only [zFn] at dd ⊢;clear hf hm;go_wp2_with fail
  go_ret
  exact ⟨by rw [RES.out]; rfl,F2.out⟩
end
end Go.Proofs.YtfdhofabgdkkkaaGreatDoor
