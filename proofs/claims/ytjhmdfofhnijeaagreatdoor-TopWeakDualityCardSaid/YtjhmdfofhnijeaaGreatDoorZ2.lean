import Derived.Test.YtjhmdfofhnijeaaGreatDoorZ1
import Derived.JoinedOf
set_option linter.unusedSimpArgs false
set_option linter.unusedSectionVars false
set_option linter.unusedVariables false
namespace Go.Proofs.YtjhmdfofhnijeaaGreatDoor.topWeakDuality
open Go
set_option maxRecDepth 100000
theorem j0:(Rows.topWeakDualityRow.wf (OpenSpec.ofChange Rows.topWeakDualitySpec)) = true:=by kernel_rfl
theorem j1:laidOutB Tryz.pinned.checked.prog = true:=laidOut
theorem j2:(mapsRowed Tryz.pinned.checked.prog) = true:=by kernel_rfl
theorem j3:(Tryz.f3.params.all (Tryz.pinned.checked.prog.readableRec ·)) = true:=by kernel_rfl
theorem j4:(namedTie Tryz.pinned.checked.prog Rows.topWeakDualityRow.named Rows.topWeakDualitySpec.vars) = true:=by kernel_rfl
theorem j5:((Rows.topWeakDualityRow.stops == [])) = true:=by kernel_rfl
theorem j6:((Tryz.pinned.checked.prog.stops == [])) = true:=by kernel_rfl
theorem j7:((Rows.topWeakDualityRow.knobs == [])) = true:=by kernel_rfl
theorem j8:((Tryz.pinned.checked.prog.stopKnobs == [])) = true:=by kernel_rfl
theorem cloP:Tryz.pinned.checked.prog.closure 3 = clo3:=closure3
theorem inPl:Tryz.pinned.checked.prog.inPlace 3 = Rows.topWeakDualityRow.inPlace:=by
 unfold Program.inPlace
 rw [cloP]
 kernel_rfl
theorem j9:(Rows.topWeakDualityRow.inPlace == Tryz.pinned.checked.prog.inPlace 3) = true:=by rw [inPl];exact beq_self_eq_true _
theorem unFo:Tryz.pinned.checked.prog.unfollowed 3 = true:=by
 unfold Program.unfollowed
 rw [cloP]
 kernel_rfl
theorem j10:(Rows.topWeakDualityRow.unfollowed == Tryz.pinned.checked.prog.unfollowed 3) = true:=by rw [unFo];rfl
theorem j11:(Rows.topWeakDualityRow.recurses == Tryz.pinned.checked.prog.recurses 3) = true:=by unfold Program.recurses;rw [unFo];rfl
theorem varN:Tryz.pinned.checked.prog.varsNamed 3 = Rows.topWeakDualityRow.named:=by
 unfold Program.varsNamed
 rw [cloP]
 kernel_rfl
theorem j12:(Rows.topWeakDualityRow.named == Tryz.pinned.checked.prog.varsNamed 3) = true:=by rw [varN];exact beq_self_eq_true _
theorem j13:((Rows.topWeakDualityRow.maps == (Tryz.f3.params.toList ++ Rows.topWeakDualitySpec.plain.varTypes Tryz.pinned.checked.prog).any (Tryz.pinned.checked.prog.mapsRec ·))) = true:=by kernel_rfl
theorem j14:((Rows.topWeakDualityRow.ifaces == (Tryz.f3.params.toList ++ Rows.topWeakDualitySpec.plain.varTypes Tryz.pinned.checked.prog).any (Tryz.pinned.checked.prog.ifacesRec ·))) = true:=by kernel_rfl
theorem j15:((Rows.topWeakDualityRow.mapsOut == Tryz.pinned.checked.prog.mapsAmong Tryz.f3.resultTypes.toList)) = true:=by kernel_rfl
theorem j16:((Rows.topWeakDualityRow.loops == (Tryz.f3.params.toList ++ Rows.topWeakDualitySpec.plain.varTypes Tryz.pinned.checked.prog).any (Tryz.pinned.checked.prog.loopsFrom ·))) = true:=by kernel_rfl
theorem j17:((Rows.topWeakDualityRow.wideKeys == (Tryz.f3.params.toList ++ Rows.topWeakDualitySpec.plain.varTypes Tryz.pinned.checked.prog ++ Tryz.f3.resultTypes.toList).any (Tryz.pinned.checked.prog.wideKeysFrom ·))) = true:=by kernel_rfl
theorem j18:(Rows.topWeakDualitySpec.vars.all (Tryz.pinned.checked.prog.varReadable ·)) = true:=by kernel_rfl
theorem j19:(Tryz.f3.resultTypes.all (fun t=>Tryz.pinned.checked.prog.readableRec t && decide (t < Tryz.pinned.checked.prog.types.size))) = true:=by kernel_rfl
theorem j20:((Rows.topWeakDualityRow.ifacesOut == Tryz.f3.resultTypes.toList.any (Tryz.pinned.checked.prog.ifacesRec ·))) = true:=by kernel_rfl
theorem j21:((Rows.topWeakDualityRow.loopsOut == Tryz.f3.resultTypes.toList.any (Tryz.pinned.checked.prog.loopsFrom ·))) = true:=by kernel_rfl
theorem j22:((Rows.topWeakDualityRow.plainKeys == Tryz.pinned.checked.prog.plainKeys)) = true:=by kernel_rfl
theorem j23:(Rows.topWeakDualityRow.shortTexts.isNone) = true:=by kernel_rfl
theorem j24:(Tryz.pinned.checked.prog.stopsHeard) = true:=by kernel_rfl
theorem j25:(Tryz.pinned.checked.prog.mayEnter) = true:=by kernel_rfl
theorem j26:((Rows.topWeakDualityRow.lifted == Tryz.pinned.checked.prog.liftsFinal)) = true:=by kernel_rfl
theorem j27:((Tryz.pinned.checked.prog.make == some Rows.topWeakDualityRow.make)) = true:=by kernel_rfl
theorem j28:((Rows.topWeakDualityRow.kinds == (if Rows.topWeakDualityRow.domain.isEmpty then [] else Tryz.f3.params.toList.map fun t=>match Tryz.pinned.checked.prog.underlying t with | some (.int k)=>some k | _=>none))) = true:=by kernel_rfl
theorem j29:((Rows.topWeakDualityRow.pinned == Rows.topWeakDualityRow.pinnedBy)) = true:=by kernel_rfl
theorem j30:((Rows.topWeakDualityRow.veiled == (Tryz.f3.params.toList ++ Rows.topWeakDualitySpec.plain.varTypes Tryz.pinned.checked.prog ++ Tryz.f3.resultTypes.toList).any (Tryz.pinned.checked.prog.veiledRec ·))) = true:=by kernel_rfl
theorem j31:(Rows.topWeakDualityRow.veiledFits Tryz.pinned.checked.prog Tryz.f3.params.toList (Tryz.f3.params.toList ++ Rows.topWeakDualitySpec.plain.varTypes Tryz.pinned.checked.prog ++ Tryz.f3.resultTypes.toList)) = true:=by kernel_rfl
theorem andT {a b:Bool} (h:a = true) (h':b = true):(a && b) = true:=by rw [h,h'];rfl
theorem facts:joinedFacts Tryz.pinned.checked.prog 3 Tryz.f3 Rows.topWeakDualitySpec Rows.topWeakDualityRow = true:=by
 unfold joinedFacts
 exact andT (andT (andT (andT (andT (andT (andT (andT (andT (andT (andT (andT (andT (andT (andT (andT (andT (andT (andT (andT (andT (andT (andT (andT (andT (andT (andT (andT (andT (andT (andT j0 j1) j2) j3) j4) j5) j6) j7) j8) j9) j10) j11) j12) j13) j14) j15) j16) j17) j18) j19) j20) j21) j22) j23) j24) j25) j26) j27) j28) j29) j30) j31
end Go.Proofs.YtjhmdfofhnijeaaGreatDoor.topWeakDuality
namespace Go.Proofs.YtjhmdfofhnijeaaGreatDoor.topWeakDuality
open Go.ChangeShapes Go.WideShapes Go.ChangeAt Go.RowKit Go.Sy Go.Mb
set_option maxRecDepth 100000
theorem named:Tryz.pinned.checked.prog.funcNamed Rows.topWeakDualityRow.func = some 3:=by kernel_rfl
theorem inst:(Tryz.f3).isInstance Tryz.pinned.checked.prog Rows.topWeakDualityRow.origin Rows.topWeakDualityRow.targs:=of_decide_eq_true (by kernel_rfl)
theorem wrapped:(Tryz.f3).isWrapper Tryz.pinned.checked.prog Rows.topWeakDualityRow.wrapper Rows.topWeakDualityRow.mainSum:=by unfold Func.isWrapper;first | (rw [if_pos (by decide +kernel)];kernel_rfl) | (rw [if_neg (by decide +kernel)];exact ⟨rfl,rfl⟩)
theorem said (aw:FnOK Tryz.prog 6 [] (.bool true,none)):Rows.TopWeakDualitySaid:=
 OpenClaim.holds_of_wide 3 Tryz.f3 rfl rfl rfl rfl rfl rfl rfl ⟨rfl,rfl,rfl,rfl,rfl⟩ rfl rfl rfl rfl rfl named Tryz.func3 facts inst wrapped
  (fun os started H enc _=>lifted aw os started H enc)
theorem row_tie:Rows.topWeakDualityRow.laidByTextAt .later Tryz.pinned [.pinned,.data] true:=
 OpenClaim.laidByTextAt_pinned rfl rfl tie rfl rfl rfl rfl (fun y hy _e=>by
  simp only [Rows.topWeakDualityRow,List.zip_cons_cons,List.zip_nil_right,List.mem_cons,List.mem_nil_iff,or_false] at hy
  rcases hy with rfl | rfl
  ·exact ⟨pinFits,by kernel_rfl⟩
  ·cases _e) fits1
theorem wfText:Rows.topWeakDualityRow.wfByText (OpenSpec.ofChange Rows.topWeakDualitySpec) = true:=by kernel_rfl
theorem mainIs : Tryz.pinned.checked.prog.mainIs = some (true, "5eb3649b67557ea2c1f533c2a8db8cd9aa1db35f7d64895c7d0e346daf212106".toList) := by kernel_rfl
theorem looks:true = Tryz.pinned.checked.prog.looks []:=by kernel_rfl
theorem goesA:(clo3.any fun g=>(Tryz.pinned.checked.prog.funcs[g]?).any Func.goes) = false:=by kernel_rfl
theorem goesB:Tryz.pinned.checked.prog.funcs.any Func.goes = false:=by kernel_rfl
theorem goes0:Tryz.pinned.checked.prog.goes 3 = false:=by
 unfold Program.goes
 rw [cloP,unFo,goesA,goesB];rfl
theorem goesBy:false = Rows.topWeakDualityRow.goesBy Tryz.pinned.checked.prog:=by
 unfold OpenClaim.goesBy Program.goesAt Program.goesFrom
 rw [named,Option.any_some,goes0];rfl
theorem noStand:([29,31,32,34].all fun u=>!Tryz.prog.wantsStandIn u) = true:=by kernel_rfl
theorem card (aw:FnOK Tryz.prog 6 [] (.bool true,none)):Rows.TopWeakDualityCardSaid:=
 Claim7.holds_tied_plain_at .later [] [.pinned, .data] true (true, "5eb3649b67557ea2c1f533c2a8db8cd9aa1db35f7d64895c7d0e346daf212106") true
  (said aw) (fun _ h=>by cases h) wfText (fun _ h=>by cases h) row_tie rfl ⟨rfl,rfl⟩ mainIs rfl
  (fun f fn hf hfn=>by
   obtain rfl:f = 3:=Option.some.inj (named.symm.trans hf) |>.symm
   obtain rfl:fn = Tryz.f3:=(Option.some.inj (Tryz.func3.symm.trans hfn)).symm
   exact ⟨looks,fun j t ht=>by
    rw [Tryz.params3] at ht
    have hm:t ∈ [29,31,32,34]:=by simpa using Array.mem_of_getElem? ht
    exact (show Tryz.prog.wantsStandIn t = false by simpa using List.all_eq_true.1 noStand t hm)⟩)
  goesBy
end Go.Proofs.YtjhmdfofhnijeaaGreatDoor.topWeakDuality
