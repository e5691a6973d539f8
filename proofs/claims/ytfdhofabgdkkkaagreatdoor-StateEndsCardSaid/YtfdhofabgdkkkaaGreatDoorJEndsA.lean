/- Ends never fall, as long as the topic is there; starts never fall either. -/
import Derived.Test.YtfdhofabgdkkkaaGreatDoorRows
import Derived.Test.YtfdhofabgdkkkaaGreatDoorCards
import Derived.Test.YtfdhofabgdkkkaaGreatDoorTie
import Derived.Test.YtfdhofabgdkkkaaGreatDoorJ50
import Derived.Lib.LaidU8
import Derived.Test.YtfdhofabgdkkkaaGreatDoorJ24
import Derived.ProofKit
import Derived.Lib.SmallJoins
import Derived.Carry
import Derived.OpenShut
import Derived.LaidMore
import Derived.Lay
import Derived.SevenTiedAt
import Derived.Stop.Joined
namespace Go.Proofs.YtfdhofabgdkkkaaGreatDoor.stateEnds
open Go.ChangeShapes Go.WideShapes Go.ChangeAt Go.RowKit Go.Joins Go.Fm Go.BigFrame
set_option linter.unusedVariables false
set_option maxRecDepth 100000
theorem own:ownKnob Tryz.prog.godebug=none:=by kernel_rfl
theorem laidOut:laidOutB Tryz.prog=true:=by kernel_rfl
theorem first_of {W:World} (h:laidMetH Tryz.prog [("flotsam/crcc.steps",Rows.laid_flotsam_crcc_steps),("unicode/utf8.acceptRanges",Rows.laid_unicode_utf8_acceptRanges),("unicode/utf8.first",Rows.laid_unicode_utf8_first)] W):laidMetH Tryz.prog [("flotsam/crcc.steps",Rows.laid_flotsam_crcc_steps)] W:=by
 rw [MakeChecks.laidMetH_plain _ _ _ (by kernel_rfl)] at h ⊢
 obtain ⟨ps,⟨g,t,cs,fuel,p,q,h1,h2,h3,h4,h5,rfl⟩,nd,hc⟩:=h
 refine ⟨_,⟨g,t,cs,fuel,p,[],h1,h2,h3,h4,rfl,rfl⟩,?_,fun b off hm=>hc b off ?_⟩
 ·rw [List.append_nil]; exact (List.nodup_append.1 nd).1
 ·rw [List.append_nil] at hm; exact List.mem_append_left _ hm
theorem first_eq:(Rows.laid_unicode_utf8_first:DataW Unit)=Lib.firstData:=by kernel_rfl
theorem accept_eq:(Rows.laid_unicode_utf8_acceptRanges:DataW Unit)=Lib.acceptData:=by kernel_rfl
theorem hasCw_of {W:World} (h:laidMetH Tryz.prog [("flotsam/crcc.steps",Rows.laid_flotsam_crcc_steps),("unicode/utf8.acceptRanges",Rows.laid_unicode_utf8_acceptRanges),("unicode/utf8.first",Rows.laid_unicode_utf8_first)] W):ja W:=by
 have h1:laidMet Tryz.prog [("flotsam/crcc.steps",Rows.laid_flotsam_crcc_steps),("unicode/utf8.acceptRanges",Rows.laid_unicode_utf8_acceptRanges),("unicode/utf8.first",Rows.laid_unicode_utf8_first)] W:=by
  rw [MakeChecks.laidMetH_plain _ _ _ (by kernel_rfl)] at h
  exact h
 have hU:Lib.Utf8Tabs 1 2 W:=
  utf8Tabs_of_reads (ρ:=Tryz.lays260_ren) { Tryz.lays260 with } ⟨by kernel_rfl,by kernel_rfl,by kernel_rfl,by kernel_rfl,by kernel_rfl,by kernel_rfl,by kernel_rfl⟩ (first_eq ▸ Lib.laidMet.reads h1 (.tail _ (.tail _ (.head _)))) (accept_eq ▸ Lib.laidMet.reads h1 (.tail _ (.head _)))
 exact ⟨hU,World.block_lt_of_cell? W ⟨2,0,none⟩ (hU.2 0 (by omega)).1⟩
theorem lifted (os:Os) (started:os.Started) (H:Type) (enc:TypeId × Value→H):
  ReturnsInHanded {} Tryz.checked os 5 .any (fun w args=>(Rows.stateEndsSpec.pre enc Tryz.prog Tryz.f5 Rows.stateEndsRow.domain false w args∧laidMetH Tryz.prog [("flotsam/crcc.steps",Rows.laid_flotsam_crcc_steps),("unicode/utf8.acceptRanges",Rows.laid_unicode_utf8_acceptRanges),("unicode/utf8.first",Rows.laid_unicode_utf8_first)] w)∧sizedMet enc Tryz.prog Tryz.f5 (OpenSpec.ofChange Rows.stateEndsSpec) false w args)
   (Rows.stateEndsSpec.post enc Tryz.prog Tryz.f5 false true false false):=by
 refine returnsInHanded_of_change_and (C:=Tryz.checked) (X:=fun w _=>laidMetH Tryz.prog [("flotsam/crcc.steps",Rows.laid_flotsam_crcc_steps),("unicode/utf8.acceptRanges",Rows.laid_unicode_utf8_acceptRanges),("unicode/utf8.first",Rows.laid_unicode_utf8_first)] w) (fun _ _ _ hh h=>h.of_heap hh) own started (by kernel_rfl) Tryz.func5
  (ChangeSpec.witness_shaped (enc:=enc) (C:=Tryz.checked) (os:=os) (X:=fun w _=>laidMetH Tryz.prog [("flotsam/crcc.steps",Rows.laid_flotsam_crcc_steps),("unicode/utf8.acceptRanges",Rows.laid_unicode_utf8_acceptRanges),("unicode/utf8.first",Rows.laid_unicode_utf8_first)] w) false (World.laidAll Tryz.prog os [("flotsam/crcc.steps",Rows.laid_flotsam_crcc_steps),("unicode/utf8.acceptRanges",Rows.laid_unicode_utf8_acceptRanges),("unicode/utf8.first",Rows.laid_unicode_utf8_first)]) #[.slice none 0 0,.int .i64 0] 8 (World.laidAll_os _ _ _)
   (World.shaped_of_ZipB (by kernel_rfl) (by kernel_rfl)) (by kernel_rfl) (by kernel_rfl) (by kernel_rfl)
   (by rw [MakeChecks.laidMetH_plain _ _ _ (by kernel_rfl)]; exact laidMet_laidAll _ (by kernel_rfl) (by kernel_rfl))) ?_
 intro W base args ds gs before hval0 hW hc hsz hL _
 have hval:∀(j:Nat) t v,Tryz.f5.params[j]?=some t→args[j]?=some v→Value.okWide Tryz.prog W .any base t v:=hval0
 have hW':=hW
 obtain ⟨p,q,hA0,hV,rfl,hfz,hnd⟩:=hW
 have hA:DataW.TrodAll enc Tryz.prog W 0 (fun _=>true) true Tryz.f5.params.toList args.toList ds p:=hA0
 rw [Tryz.params5] at hA hval
 obtain ⟨v0,vs0,d0,ds0,p0,q0,hargs0,rfl,rfl,h0,r0⟩:=trodAll_cons hA
 obtain ⟨v1,vs1,d1,ds1,p1,q1,hargs1,rfl,rfl,h1,r1⟩:=trodAll_cons r0
 obtain ⟨rfl,rfl,rfl⟩:=trodAll_nil r1
 obtain rfl:args=#[v0,v1]:=by cases args; simp_all
 obtain ⟨rfl,rfl⟩:=trodVars_none hV
 have k0:=h0
 have lt0:∀x∈p0,x.block < W.heap.size:=by obtain ⟨m,hm⟩:=k0; exact DataW.trod_lt m _ _ _ hm
 have k1:=h1
 have lt1:∀x∈p1,x.block < W.heap.size:=by obtain ⟨m,hm⟩:=k1; exact DataW.trod_lt m _ _ _ hm
 have hw9:∀n∈d0.weights Tryz.prog 49,n≤reachBytes:=fun n hn=>by
  have h1:=List.all_eq_true.1 hsz n (DataW.weights_mem_each (j:=0) (t:=49) (d:=d0) (by rw [Tryz.params5]; rfl) (by first | rfl | simp) n hn)
  simpa using h1
 obtain ⟨a0,len0,cap0,rfl⟩:=Go.WideShapes.okWide_slice Tryz.underlying49 (hval 0 49 v0 rfl rfl)
 obtain ⟨l0,hl0⟩:∃l,zPq W (.slice a0 len0 cap0) l:=by
  obtain ⟨m,hm⟩:=k0
  exact zUj hm hw9
 have hst:=zOb (first_of hL)
 obtain ⟨n1,rfl,-,-,w1⟩:=open_int Tryz.underlying3 (hval 1 3 v1 rfl rfl) h1
 clear hA0 hval0
 refine (zZf l0 _ n1 W hl0 w1 hst (hasCw_of hL)).mono fun e W' ⟨he,hf⟩=>?_
 have bel:Below W.heap.size W W':=hf.below (Nat.le_refl _) fun k hk=>hk.elim
 subst he
 exact ⟨_,rfl,_,_,_,[],_,[],hW',trodAll_mk1 (shut_bool Tryz.underlying4 _),(trodAll_cons_mk (Below.trod laidOut (by kernel_rfl) (of_decide_eq_true (by kernel_rfl)) k0 bel lt0) (trodAll_cons_mk (Below.trod laidOut (by kernel_rfl) (of_decide_eq_true (by kernel_rfl)) k1 bel lt1) trodAll_mk0)),rfl,bel.frame _,fun h=>by cases h⟩
end Go.Proofs.YtfdhofabgdkkkaaGreatDoor.stateEnds
