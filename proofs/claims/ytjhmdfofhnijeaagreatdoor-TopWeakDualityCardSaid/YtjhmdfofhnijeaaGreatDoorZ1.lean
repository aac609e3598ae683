import Derived.Test.YtjhmdfofhnijeaaGreatDoorV1
import Derived.Test.YtjhmdfofhnijeaaGreatDoorW2
import Derived.Test.YtjhmdfofhnijeaaGreatDoorY1
import Derived.Test.YtjhmdfofhnijeaaGreatDoorCards
import Derived.ProofKit
import Derived.LaidMore
import Derived.Lay
import Derived.Stop.Joined
set_option linter.unusedSimpArgs false
set_option linter.unusedSectionVars false
set_option linter.unusedVariables false
namespace Go.Proofs.YtjhmdfofhnijeaaGreatDoor.topWeakDuality
open Go.ChangeShapes Go.WideShapes Go.ChangeAt Go.RowKit Go.Sy Go.Mb
set_option maxRecDepth 100000
theorem own:ownKnob Tryz.prog.godebug = none:=by kernel_rfl
theorem laid:laidOutB Tryz.prog = true:=laidOut
def laidL:List (String × DataW Unit):=Rows.topWeakDualityRow.laid
noncomputable def wit0 (os:Os):World:=World.laidAll Tryz.prog os laidL
def witA:Array Value:=#[.agg #[.slice none 0 0,.slice none 0 0,.slice none 0 0,.slice none 0 0],.agg #[.int .i64 0,.int .i64 0,.int .i64 0,.int .i64 0,.int .i64 0],.slice none 0 0,.slice none 0 0]
theorem fa (os:Os):(World.holding Tryz.prog os ⟨#[],#[],[]⟩).layFits Tryz.prog laidL [] = true:=by kernel_rfl
theorem fb (os:Os):(World.holding Tryz.prog os ⟨#[],#[],[]⟩).layIfaces Tryz.prog laidL (World.laidAll Tryz.prog os laidL) = true:=by kernel_rfl
theorem fc (os:Os):((wit0 os).forCall (fun _ _=>0) ⟨#[],witA,[]⟩).variablesZipB Tryz.prog = true:=by kernel_rfl
theorem fd (os:Os):((((wit0 os).forCall (fun _ _=>0) ⟨#[],witA,[]⟩).heap.toList.drop Tryz.prog.globals.size).take ((begin Tryz.prog (fun _ _=>0) default).world.heap.size - Tryz.prog.globals.size) =
      (begin Tryz.prog (fun _ _=>0) default).world.heap.toList.drop Tryz.prog.globals.size):=by kernel_rfl
theorem fe (os:Os):Input.okWideB Tryz.prog ((wit0 os).forCall (fun _ _=>0) ⟨#[],witA,[]⟩) 3 ⟨#[],witA,[]⟩ = true:=by kernel_rfl
theorem ff (os:Os) (H:Type) (enc:TypeId × Value -> H):Rows.topWeakDualitySpec.preB enc Tryz.prog Tryz.f3 Rows.topWeakDualityRow.domain false ((wit0 os).forCall (fun _ _=>0) ⟨#[],witA,[]⟩).memory witA 8 = true:=by kernel_rfl
theorem fg (os:Os) (H:Type) (enc:TypeId × Value -> H):Rows.topWeakDualitySpec.sizedB enc Tryz.prog Tryz.f3 false ((wit0 os).forCall (fun _ _=>0) ⟨#[],witA,[]⟩).memory witA 8 = true:=by kernel_rfl
theorem fh:(laidL.all fun x=>x.2.handleName?.isNone) = true:=by kernel_rfl
theorem fi:Tryz.checked.prog.inits.idxOf? 3 = none:=by kernel_rfl
theorem met (os:Os):laidMetH Tryz.prog laidL ((wit0 os).forCall (fun _ _=>0) ⟨#[],witA,[]⟩).memory:=by
 rw [MakeChecks.laidMetH_plain _ _ _ fh]
 exact laidMet_laidAll _ (fa os) (fb os)
theorem rd0:Tryz.prog.readableRec 29 = true:=by kernel_rfl
theorem rd1:Tryz.prog.readableRec 31 = true:=by kernel_rfl
theorem rd2:Tryz.prog.readableRec 32 = true:=by kernel_rfl
theorem rd3:Tryz.prog.readableRec 34 = true:=by kernel_rfl
theorem tsz:Nat.blt 200 Tryz.prog.types.size = true:=by kernel_rfl
theorem tlt {t:Nat} (h:t <= 200):t < Tryz.prog.types.size:=by
 have:=Nat.le_of_ble_eq_true tsz
 omega
theorem lifted (aw:FnOK Tryz.prog 6 [] (.bool true,none)) (os:Os) (started:os.Started) (H:Type) (enc:TypeId × Value -> H):
  ReturnsInHanded {} Tryz.checked os 3 .any (fun w args=>(Rows.topWeakDualitySpec.pre enc Tryz.prog Tryz.f3 Rows.topWeakDualityRow.domain false w args /\ laidMetH Tryz.prog Rows.topWeakDualityRow.laid w) /\ sizedMet enc Tryz.prog Tryz.f3 (OpenSpec.ofChange Rows.topWeakDualitySpec) false w args) (Rows.topWeakDualitySpec.post enc Tryz.prog Tryz.f3 false true false false):=by
 refine returnsInHanded_of_change_and (C:=Tryz.checked) (X:=fun w _=>laidMetH Tryz.prog Rows.topWeakDualityRow.laid w) (fun _ _ _ hh h=>h.of_heap hh) own started fi Tryz.func3
  (ChangeSpec.witness_shaped (enc:=enc) (C:=Tryz.checked) (os:=os) (X:=fun w _=>laidMetH Tryz.prog Rows.topWeakDualityRow.laid w) false (wit0 os) witA 8 (World.laidAll_os _ _ _)
   (World.shaped_of_ZipB (fc os) (fd os)) (fe os) (ff os H enc) (fg os H enc) (met os)) ?_
 intro W base args ds gs before hval0 hW hc _ hL _
 have hval:∀ (j:Nat) t v,Tryz.f3.params[j]? = some t -> args[j]? = some v -> Value.okWide Tryz.prog W .any base t v:=hval0
 have hW':=hW
 obtain ⟨p,q,hA0,hV,rfl,hfz,hnd⟩:=hW
 have hA:DataW.TrodAll enc Tryz.prog W 0 (fun _=>true) true Tryz.f3.params.toList args.toList ds p:=hA0
 rw [Tryz.params3] at hA hval
 have hAk:=hA
 obtain ⟨v0,vs0,dd0,ds0,p0,q0,hargs,rfl,rfl,h0,r0⟩:=trodAll_cons hA
 obtain ⟨v1,vs1,dd1,ds1,p1,q1,rfl,rfl,rfl,h1,r1⟩:=trodAll_cons r0
 obtain ⟨v2,vs2,dd2,ds2,p2,q2,rfl,rfl,rfl,h2,r2⟩:=trodAll_cons r1
 obtain ⟨v3,vs3,dd3,ds3,p3,q3,rfl,rfl,rfl,h3,r3⟩:=trodAll_cons r2
 obtain ⟨rfl,rfl,rfl⟩:=trodAll_nil r3
 obtain rfl:args = #[v0,v1,v2,v3]:=by cases args;simp_all
 obtain ⟨rfl,rfl⟩:=trodVars_none hV
 obtain ⟨x0,hr0⟩:=argTbl (hval 0 _ v0 rfl rfl) h0
 obtain ⟨x1,hr1⟩:=argDem (hval 1 _ v1 rfl rfl) h1
 obtain ⟨x2,hr2⟩:=argShps (hval 2 _ v2 rfl rfl) h2
 obtain ⟨x3,hr3⟩:=argCut (hval 3 _ v3 rfl rfl) h3
 simp only [List.append_nil] at hW' hAk
 have hlt:∀ x ∈ p0 ++ (p1 ++ (p2 ++ p3)),x.block < W.heap.size:=fun x hx=>hW'.lt x (by simpa using hx)
 refine ((weak58_ok aw x0 x1 x2 x3).run W (fun _=>False) [v0,v1,v2,v3] (fun _ h=>h.elim) ⟨v0,[v1,v2,v3],rfl,hr0,⟨v1,[v2,v3],rfl,hr1,⟨v2,[v3],rfl,hr2,⟨v3,[],rfl,hr3,rfl⟩⟩⟩⟩).mono ?_
 rintro e W' ⟨v',loc,rfl,hb,hv,_⟩
 simp only [R] at hv
 subst hv
 exact ⟨_,rfl,post_below (pa:=p0 ++ (p1 ++ (p2 ++ p3))) (pv:=[]) hW' (fun _ _ _=>(trodAll_cons_mk (shut_bool Tryz.underlying4 _) trodAll_mk0))
  (fun sp hsp=>trodAll_stays laid hb (fun t ht=>by
   rcases List.mem_cons.1 ht with rfl | ht;· exact ⟨rd0,tlt (by decide)⟩
   rcases List.mem_cons.1 ht with rfl | ht;· exact ⟨rd1,tlt (by decide)⟩
   rcases List.mem_cons.1 ht with rfl | ht;· exact ⟨rd2,tlt (by decide)⟩
   obtain rfl:=List.mem_singleton.1 ht;exact ⟨rd3,tlt (by decide)⟩) hAk hlt hsp) (fun _ _=>rfl) (by simp) hb (ok_one (by kernel_rfl) rfl (okWide_bool_mk Tryz.underlying4 _))⟩
end Go.Proofs.YtjhmdfofhnijeaaGreatDoor.topWeakDuality
