import Derived.Test.YtjhmdfofhnijeaaGreatDoorH3
import Derived.Test.YtjhmdfofhnijeaaGreatDoorG1
import Derived.Test.YtjhmdfofhnijeaaGreatDoorW2
import Derived.Test.YtjhmdfofhnijeaaGreatDoorY1
import Derived.Test.YtjhmdfofhnijeaaGreatDoorX1
import Derived.Test.YtjhmdfofhnijeaaGreatDoorCards
import Derived.LaidMore
import Derived.Lay
import Derived.Stop.Joined
open Go.Proofs.Tryz renaming prog->aa, f4->ab, underlying4->ae
set_option linter.all false
namespace Go.Proofs.YtjhmdfofhnijeaaGreatDoor.topDemandsProved
open Go.ChangeShapes Go.WideShapes Go.ChangeAt Go.RowKit Go.Sy Go.Mb
set_option maxRecDepth 100000
theorem own:ownKnob aa.godebug=none:=by kernel_rfl
theorem laid:laidOutB aa=true:=laidOut
def zC:List (String×DataW Unit):=Rows.topDemandsProvedRow.laid
noncomputable def xl(os:Os):World:=World.laidAll aa os zC
def sk:Array Value:=#[.agg #[.slice none 0 0,.slice none 0 0,.slice none 0 0,.slice none 0 0],.slice none 0 0]
theorem fa(os:Os):(World.holding aa os ⟨#[],#[],[]⟩).layFits aa zC []=true:=by kernel_rfl
theorem fb(os:Os):(World.holding aa os ⟨#[],#[],[]⟩).layIfaces aa zC (World.laidAll aa os zC)=true:=by kernel_rfl
theorem fc(os:Os):((xl os).forCall (λ_ _=>0) ⟨#[],sk,[]⟩).variablesZipB aa=true:=by kernel_rfl
theorem fd(os:Os):((((xl os).forCall (fun _ _=>0) ⟨#[],sk,[]⟩).heap.toList.drop aa.globals.size).take ((begin aa (fun _ _=>0) default).world.heap.size-aa.globals.size)=
      (begin aa (λ_ _=>0) default).world.heap.toList.drop aa.globals.size):=by kernel_rfl
theorem fe(os:Os):Input.okWideB aa ((xl os).forCall (λ_ _=>0) ⟨#[],sk,[]⟩) 4 ⟨#[],sk,[]⟩=true:=by kernel_rfl
theorem ff(os:Os)(H:Type)(enc:TypeId×Value->H):Rows.topDemandsProvedSpec.preB enc aa ab Rows.topDemandsProvedRow.domain false ((xl os).forCall (λ_ _=>0) ⟨#[],sk,[]⟩).memory sk 8=true:=by kernel_rfl
theorem fg(os:Os)(H:Type)(enc:TypeId×Value->H):Rows.topDemandsProvedSpec.sizedB enc aa ab false ((xl os).forCall (λ_ _=>0) ⟨#[],sk,[]⟩).memory sk 8=true:=by kernel_rfl
theorem fh:(zC.all λx=>x.2.handleName?.isNone)=true:=by kernel_rfl
theorem fi:Tryz.checked.prog.inits.idxOf? 4=none:=by kernel_rfl
theorem met(os:Os):laidMetH aa zC ((xl os).forCall (λ_ _=>0) ⟨#[],sk,[]⟩).memory:=by
 rw[MakeChecks.laidMetH_plain _ _ _ fh];exact laidMet_laidAll _ (fa os) (fb os)
theorem rd0:aa.readableRec 29=true:=by kernel_rfl
theorem rd1:aa.readableRec 43=true:=by kernel_rfl
theorem tsz:Nat.blt 200 aa.types.size=true:=by kernel_rfl
theorem ZO{t:Nat}(h:t<=200):t<aa.types.size:=by
 have:=Nat.le_of_ble_eq_true tsz;omega
theorem lifted(aw:cJ aa 6 [] (.bool true,none))(os:Os)(started:os.Started)(H:Type)(enc:TypeId×Value->H):
  ReturnsInHanded {} Tryz.checked os 4 .any (λw args=>(Rows.topDemandsProvedSpec.pre enc aa ab Rows.topDemandsProvedRow.domain false w args/\laidMetH aa Rows.topDemandsProvedRow.laid w)/\sizedMet enc aa ab (OpenSpec.ofChange Rows.topDemandsProvedSpec) false w args) (Rows.topDemandsProvedSpec.post enc aa ab false true false false):=by
 refine returnsInHanded_of_change_and (C:=Tryz.checked) (X:=λw _=>laidMetH aa Rows.topDemandsProvedRow.laid w) (λ_ _ _ hh h=>h.of_heap hh) own started fi Tryz.func4
  (ChangeSpec.witness_shaped (enc:=enc) (C:=Tryz.checked) (os:=os) (X:=λw _=>laidMetH aa Rows.topDemandsProvedRow.laid w) false (xl os) sk 8 (World.laidAll_os _ _ _)
   (World.shaped_of_ZipB (fc os) (fd os)) (fe os) (ff os H enc) (fg os H enc) (met os)) ?_
 intro W base args ds gs before aro hW hc _ hL _;have hval:∀ (j:Nat) t v,ab.params[j]? =some t->args[j]? =some v->Value.okWide aa W .any base t v:=aro;have Ox:=hW;obtain⟨p,q,hA0,hV,rfl,hfz,hnd⟩:=hW;have hA:DataW.TrodAll enc aa W 0 (λ_=>true) true ab.params.toList args.toList ds p:=hA0;rw[Tryz.params4]at hA hval;have ZP:=hA;obtain⟨v0,vs0,dd0,ds0,p0,q0,hargs,rfl,rfl,h0,r0⟩:=trodAll_cons hA;obtain⟨v1,Xm,dd1,ds1,p1,q1,rfl,rfl,rfl,h1,r1⟩:=trodAll_cons r0;obtain⟨rfl,rfl,rfl⟩:=trodAll_nil r1;obtain rfl:args= #[v0,v1]:=by cases args;simp_all
 obtain⟨rfl,rfl⟩:=trodVars_none hV;obtain⟨x0,mO⟩:=aqZ (hval 0 _ v0 rfl rfl) h0;obtain⟨x1,fD⟩:=aq7 (hval 1 _ v1 rfl rfl) h1;simp only[List.append_nil]at Ox ZP;have hlt:∀ x∈p0++p1,x.block<W.heap.size:=λx hx=>Ox.lt x (by simpa using hx);refine((aj2 aw x0 x1).run W (λ_=>False) [v0,v1] (λ_ h=>h.elim) ⟨v0,[v1],rfl,mO,⟨v1,[],rfl,fD,rfl⟩⟩).mono ?_;rintro e W' ⟨v',loc,rfl,hb,hv,_⟩;simp only[R]at hv;subst hv;exact⟨_,rfl,ao2 (pa:=p0++p1) (pv:=[]) Ox (λ_ _ _=>(trodAll_cons_mk (shut_bool ae _) trodAll_mk0))
  (λsp hsp=>X6 laid hb (λt ht=>by
   rcases List.mem_cons.1 ht with rfl|ht
   .exact⟨rd0,ZO (by decide)⟩
   obtain rfl:=List.mem_singleton.1 ht;exact⟨rd1,ZO (by decide)⟩) ZP hlt hsp) (λ_ _=>rfl) (by simp) hb (ok_one (by kernel_rfl) rfl (okWide_bool_mk ae _))⟩
end Go.Proofs.YtjhmdfofhnijeaaGreatDoor.topDemandsProved
