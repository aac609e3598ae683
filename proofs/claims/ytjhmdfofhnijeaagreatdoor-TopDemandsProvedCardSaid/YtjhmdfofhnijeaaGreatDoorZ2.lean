import Derived.Test.YtjhmdfofhnijeaaGreatDoorZ1
import Derived.JoinedOf
open Go.Proofs.Tryz renaming f4->aa, prog->ab, func4->ae
set_option linter.all false
namespace Go.Proofs.YtjhmdfofhnijeaaGreatDoor.topDemandsProved
open Go
set_option maxRecDepth 100000
theorem j0:(Rows.topDemandsProvedRow.wf (OpenSpec.ofChange Rows.topDemandsProvedSpec))=true:=by kernel_rfl
theorem j1:laidOutB Tryz.pinned.checked.prog=true:=laidOut
theorem j2:(mapsRowed Tryz.pinned.checked.prog)=true:=by kernel_rfl
theorem j3:(aa.params.all (Tryz.pinned.checked.prog.readableRec ·))=true:=by kernel_rfl
theorem j4:(namedTie Tryz.pinned.checked.prog Rows.topDemandsProvedRow.named Rows.topDemandsProvedSpec.vars)=true:=by kernel_rfl
theorem j5:((Rows.topDemandsProvedRow.stops==[]))=true:=by kernel_rfl
theorem j6:((Tryz.pinned.checked.prog.stops==[]))=true:=by kernel_rfl
theorem j7:((Rows.topDemandsProvedRow.knobs==[]))=true:=by kernel_rfl
theorem j8:((Tryz.pinned.checked.prog.stopKnobs==[]))=true:=by kernel_rfl
theorem Hn:Tryz.pinned.checked.prog.closure 4=Hm:=aqO
theorem arp:Tryz.pinned.checked.prog.inPlace 4=Rows.topDemandsProvedRow.inPlace:=by
 unfold Program.inPlace;rw[Hn];kernel_rfl
theorem j9:(Rows.topDemandsProvedRow.inPlace==Tryz.pinned.checked.prog.inPlace 4)=true:=by rw[arp];exact beq_self_eq_true _
theorem Oy:Tryz.pinned.checked.prog.unfollowed 4=true:=by
 unfold Program.unfollowed;rw[Hn];kernel_rfl
theorem j10:(Rows.topDemandsProvedRow.unfollowed==Tryz.pinned.checked.prog.unfollowed 4)=true:=by rw[Oy];rfl
theorem j11:(Rows.topDemandsProvedRow.recurses==Tryz.pinned.checked.prog.recurses 4)=true:=by unfold Program.recurses;rw[Oy];rfl
theorem arq:Tryz.pinned.checked.prog.varsNamed 4=Rows.topDemandsProvedRow.named:=by
 unfold Program.varsNamed;rw[Hn];kernel_rfl
theorem j12:(Rows.topDemandsProvedRow.named==Tryz.pinned.checked.prog.varsNamed 4)=true:=by rw[arq];exact beq_self_eq_true _
theorem j13:((Rows.topDemandsProvedRow.maps==(aa.params.toList++Rows.topDemandsProvedSpec.plain.varTypes Tryz.pinned.checked.prog).any (Tryz.pinned.checked.prog.mapsRec ·)))=true:=by kernel_rfl
theorem j14:((Rows.topDemandsProvedRow.ifaces==(aa.params.toList++Rows.topDemandsProvedSpec.plain.varTypes Tryz.pinned.checked.prog).any (Tryz.pinned.checked.prog.ifacesRec ·)))=true:=by kernel_rfl
theorem j15:((Rows.topDemandsProvedRow.mapsOut==Tryz.pinned.checked.prog.mapsAmong aa.resultTypes.toList))=true:=by kernel_rfl
theorem j16:((Rows.topDemandsProvedRow.loops==(aa.params.toList++Rows.topDemandsProvedSpec.plain.varTypes Tryz.pinned.checked.prog).any (Tryz.pinned.checked.prog.loopsFrom ·)))=true:=by kernel_rfl
theorem j17:((Rows.topDemandsProvedRow.wideKeys==(aa.params.toList++Rows.topDemandsProvedSpec.plain.varTypes Tryz.pinned.checked.prog++aa.resultTypes.toList).any (Tryz.pinned.checked.prog.wideKeysFrom ·)))=true:=by kernel_rfl
theorem j18:(Rows.topDemandsProvedSpec.vars.all (Tryz.pinned.checked.prog.varReadable ·))=true:=by kernel_rfl
theorem j19:(aa.resultTypes.all (λt=>Tryz.pinned.checked.prog.readableRec t&&decide (t<Tryz.pinned.checked.prog.types.size)))=true:=by kernel_rfl
theorem j20:((Rows.topDemandsProvedRow.ifacesOut==aa.resultTypes.toList.any (Tryz.pinned.checked.prog.ifacesRec ·)))=true:=by kernel_rfl
theorem j21:((Rows.topDemandsProvedRow.loopsOut==aa.resultTypes.toList.any (Tryz.pinned.checked.prog.loopsFrom ·)))=true:=by kernel_rfl
theorem j22:((Rows.topDemandsProvedRow.plainKeys==Tryz.pinned.checked.prog.plainKeys))=true:=by kernel_rfl
theorem j23:(Rows.topDemandsProvedRow.shortTexts.isNone)=true:=by kernel_rfl
theorem j24:(Tryz.pinned.checked.prog.stopsHeard)=true:=by kernel_rfl
theorem j25:(Tryz.pinned.checked.prog.mayEnter)=true:=by kernel_rfl
theorem j26:((Rows.topDemandsProvedRow.lifted==Tryz.pinned.checked.prog.liftsFinal))=true:=by kernel_rfl
theorem j27:((Tryz.pinned.checked.prog.make==some Rows.topDemandsProvedRow.make))=true:=by kernel_rfl
theorem j28:((Rows.topDemandsProvedRow.kinds==(if Rows.topDemandsProvedRow.domain.isEmpty then[]else aa.params.toList.map λt=>match Tryz.pinned.checked.prog.underlying t with|some (.int k)=>some k|_=>none)))=true:=by kernel_rfl
theorem j29:((Rows.topDemandsProvedRow.pinned==Rows.topDemandsProvedRow.pinnedBy))=true:=by kernel_rfl
theorem j30:((Rows.topDemandsProvedRow.veiled==(aa.params.toList++Rows.topDemandsProvedSpec.plain.varTypes Tryz.pinned.checked.prog++aa.resultTypes.toList).any (Tryz.pinned.checked.prog.veiledRec ·)))=true:=by kernel_rfl
theorem j31:(Rows.topDemandsProvedRow.veiledFits Tryz.pinned.checked.prog aa.params.toList (aa.params.toList++Rows.topDemandsProvedSpec.plain.varTypes Tryz.pinned.checked.prog++aa.resultTypes.toList))=true:=by kernel_rfl
theorem ia{a b:Bool}(h:a=true)(h':b=true):(a&&b)=true:=by rw[h,h'];rfl
theorem facts:joinedFacts Tryz.pinned.checked.prog 4 aa Rows.topDemandsProvedSpec Rows.topDemandsProvedRow=true:=by
 unfold joinedFacts;exact ia (ia (ia (ia (ia (ia (ia (ia (ia (ia (ia (ia (ia (ia (ia (ia (ia (ia (ia (ia (ia (ia (ia (ia (ia (ia (ia (ia (ia (ia (ia j0 j1) j2) j3) j4) j5) j6) j7) j8) j9) j10) j11) j12) j13) j14) j15) j16) j17) j18) j19) j20) j21) j22) j23) j24) j25) j26) j27) j28) j29) j30) j31
end Go.Proofs.YtjhmdfofhnijeaaGreatDoor.topDemandsProved
namespace Go.Proofs.YtjhmdfofhnijeaaGreatDoor.topDemandsProved
open Go.ChangeShapes Go.WideShapes Go.ChangeAt Go.RowKit Go.Sy Go.Mb
set_option maxRecDepth 100000
theorem named:Tryz.pinned.checked.prog.funcNamed Rows.topDemandsProvedRow.func=some 4:=by kernel_rfl
theorem inst:(aa).isInstance Tryz.pinned.checked.prog Rows.topDemandsProvedRow.origin Rows.topDemandsProvedRow.targs:=fv (by kernel_rfl)
theorem wrapped:(aa).isWrapper Tryz.pinned.checked.prog Rows.topDemandsProvedRow.wrapper Rows.topDemandsProvedRow.mainSum:=by unfold Func.isWrapper;first|(rw[bS (by decide+kernel)];kernel_rfl)|(rw[bQ (by decide+kernel)];exact⟨rfl,rfl⟩)
theorem said(aw:cJ ab 6 [] (.bool true,none)):Rows.TopDemandsProvedSaid:=
 OpenClaim.holds_of_wide 4 aa rfl rfl rfl rfl rfl rfl rfl ⟨rfl,rfl,rfl,rfl,rfl⟩ rfl rfl rfl rfl rfl named ae facts inst wrapped
  (λos started H enc _=>lifted aw os started H enc)
theorem ars:Rows.topDemandsProvedRow.laidByTextAt .later Tryz.pinned [.pinned,.data] true:=
 OpenClaim.laidByTextAt_pinned rfl rfl tie rfl rfl rfl rfl (λy hy _e=>by
  simp only[Rows.topDemandsProvedRow,List.zip_cons_cons,List.zip_nil_right,List.mem_cons,List.mem_nil_iff,or_false]at hy;rcases hy with rfl|rfl
  .exact⟨ark,by kernel_rfl⟩
  cases _e) arn
theorem art:Rows.topDemandsProvedRow.wfByText (OpenSpec.ofChange Rows.topDemandsProvedSpec)=true:=by kernel_rfl
theorem mainIs:Tryz.pinned.checked.prog.mainIs=some (true, "5eb3649b67557ea2c1f533c2a8db8cd9aa1db35f7d64895c7d0e346daf212106".toList):=by kernel_rfl
theorem looks:true=Tryz.pinned.checked.prog.looks []:=by kernel_rfl
theorem aru:(Hm.any λg=>(Tryz.pinned.checked.prog.funcs[g]?).any Func.goes)=false:=by kernel_rfl
theorem arv:Tryz.pinned.checked.prog.funcs.any Func.goes=false:=by kernel_rfl
theorem arw:Tryz.pinned.checked.prog.goes 4=false:=by
 unfold Program.goes;rw[Hn,Oy,aru,arv];rfl
theorem goesBy:false=Rows.topDemandsProvedRow.goesBy Tryz.pinned.checked.prog:=by
 unfold OpenClaim.goesBy Program.goesAt Program.goesFrom;rw[named,Option.any_some,arw];rfl
theorem arx:([29,43].all λu=>!ab.wantsStandIn u)=true:=by kernel_rfl
theorem card(aw:cJ ab 6 [] (.bool true,none)):Rows.TopDemandsProvedCardSaid:=
 Claim7.holds_tied_plain_at .later [] [.pinned, .data] true (true, "5eb3649b67557ea2c1f533c2a8db8cd9aa1db35f7d64895c7d0e346daf212106") true
  (said aw) (λ_ h=>by cases h) art (λ_ h=>by cases h) ars rfl ⟨rfl,rfl⟩ mainIs rfl
  (λf fn hf hfn=>by
   obtain rfl:f=4:=Option.some.inj (named.symm.trans hf) |>.symm;obtain rfl:fn=aa:=(Option.some.inj (ae.symm.trans hfn)).symm;exact⟨looks,λj t ht=>by
    rw[Tryz.params4]at ht;have hm:t∈[29,43]:=by simpa using Array.mem_of_getElem? ht
    exact(show ab.wantsStandIn t=false by simpa using List.all_eq_true.1 arx t hm)⟩)
  goesBy
end Go.Proofs.YtjhmdfofhnijeaaGreatDoor.topDemandsProved
