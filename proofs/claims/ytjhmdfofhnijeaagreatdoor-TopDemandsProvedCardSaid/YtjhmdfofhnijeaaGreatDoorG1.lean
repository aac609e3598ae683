import Derived.Test.YtjhmdfofhnijeaaGreatDoorE1
open Go.Sy.WR renaming step->aa
set_option linter.all false
namespace Go.Proofs.YtjhmdfofhnijeaaGreatDoor
open Go.Sy
set_option maxRecDepth 100000
set_option maxHeartbeats 4000000
def aio:=q 287 [200] tt []
def Se:=q 223 [G [.bN,.bN],200] (U [.bN,0]) [tV,aio]
def aip:=q 291 [v193,Am] (U [v193,.bN,0]) [RC,Se]
def aiq:=q 226 [v193,Am] (U [v193,.bN,0]) [ahS,aip]
def air:A:=G [L 1 3 [100,100,100],v0,v2,.bN,.bN,tt,200,10,L 1 3 [100,100,100],v0,.bN,v44,Ik,L 1 3 [0,0,0],Ef,L 3 1 [200,5,1],Eg]
def ais:A:=U [G [200,5,1],tt]
def ait:=q 53 [air] ais []
def aiu:=q 283 [ua] tt [Rz,RA,qc,vg,oI,vj]
def aiv:=q 221 [ua] 0 [xt,nP,RB,aiu]
def aiw:=q 291 [ua,Am] (U [ua,.bN,0]) [RC,Se]
def aix:=q 226 [ua,Am] (U [ua,.bN,0]) [aiv,aiw]
def Sf:A:=G [L 1 3 [100,100,100],v0,v2,.bN,.bN,tt,200,11,L 1 3 [100,100,100],v0,.bN,v44,Ik,L 1 3 [0,0,0],Ef,L 3 0 [],Eg]
def aiy:A:=U [G [0,0,0],ff]
def aiz:=q 53 [Sf] aiy []
def xZ:Ct:=⟨18,[v3,.bN,5000],U [Sf,0],none,false⟩
noncomputable def cR:Code:=I7 Tryz.prog 18
def s0:St:=jZ 58 xZ.args []
def vJ:Ob:=.box [L 1 3 [100,100,100],v0,v2,.bN,.bN,tt]
def lz:Ob:=.box [.bN,.bN,.bN,.bN,.bN,ff,0,0,.bN,.bN,.bN,.bN,.bN,.bN,.bN,.bN,.bN]
def s1:St:=⟨fq [J,.bN,5000,.ptr 58 0,J,J,.ptr 59 0,0,U [],U [],U []] (js 8 (fq [U [],J,J,J,J,U []] (js 6 (fq [U []] (js 5 (fq [U [],U []] (js 19 []))))))),vs 58 [vJ,lz]⟩
theorem kw0:W (CA []).E 0 false (iv cR) s0 λe s=>e= .normal/\eo 0 s s1:=lA (CA []) 100000 58 [1,2,3,6,7,8,9,10,19,24,31,37,38] (K1 []) (jX _) (by kernel_rfl)
def x4:Ob:=.row 79 8 3 (fQ 8 [0,100,tt,S [],0,.bN,.bN,.bN,1,100,tt,S [],0,.bN,.bN,.bN,2,100,tt,S [],0,.bN,.bN,.bN])
def lS:Ob:=.row 3 1 3 (fQ 1 [0,0,0])
def EE:Ob:=.box [L 1 3 [100,100,100],v0,v2,.bN,.bN,tt,0,0,L 1 3 [100,100,100],v0,.bN,.bN,.own 60,.own 61,.bN,L 3 1 [0,7,0],.bN]
def s2:St:=⟨fq [J,.bN,5000,.ptr 58 0,J,J,.ptr 59 0,0,.ptr 62 0,0,U []] (js 8 (fq [U [],J,J,J,J,U []] (js 6 (fq [U []] (js 5 (fq [U [],U []] (js 19 []))))))),vs 58 [vJ,lz,x4,lS,EE]⟩
theorem kw1:W (CA []).E 0 false (iv (cY 1 cR)) s1 λe s=>e= .normal/\eo 0 s s2:=lA (CA []) 100000 58 [1,2,3,6,7,8,9,10,19,24,31,37,38] (K1 [i!,j_,j?,j!,k_,m_]) (jX _) (by kernel_rfl)
def s3:St:=⟨fq [J,.bN,5000,.ptr 58 0,J,J,.ptr 59 0,0,.ptr 62 0,0,U []] (js 8 (fq [ff,J,J,J,J,U []] (js 6 (fq [U []] (js 5 (fq [U [],U []] (js 19 []))))))),vs 58 [vJ,lz,x4,lS,EE]⟩
theorem kw2:W (CA []).E 0 false (iv (cY 1 (cY 1 cR))) s2 λe s=>e= .normal/\eo 0 s s3:=lA (CA []) 100000 58 [1,2,3,6,7,8,9,10,19,24,31,37,38] (K1 []) (jX _) (by kernel_rfl)
def s4:St:=⟨fq [J,.bN,5000,.ptr 58 0,J,J,.ptr 59 0,0,.ptr 62 0,0,U []] (js 8 (fq [ff,J,J,J,J,ff] (js 6 (fq [U []] (js 5 (fq [U [],U []] (js 19 []))))))),vs 58 [vJ,lz,x4,lS,EE]⟩
theorem kw3:W (CA []).E 0 false (iv (cY 1 (cY 1 (cY 1 cR)))) s3 λe s=>e= .normal/\eo 0 s s4:=lA (CA []) 100000 58 [1,2,3,6,7,8,9,10,19,24,31,37,38] (K1 []) (jX _) (by kernel_rfl)
def s5:St:=⟨fq [J,.bN,5000,.ptr 58 0,J,J,.ptr 59 0,0,.ptr 62 0,0,U []] (js 8 (fq [ff,J,J,J,J,ff] (js 6 (fq [ff] (js 5 (fq [U [],U []] (js 19 []))))))),vs 58 [vJ,lz,x4,lS,EE]⟩
theorem kw4:W (CA []).E 0 false (iv (cY 1 (cY 1 (cY 1 (cY 1 cR))))) s4 λe s=>e= .normal/\eo 0 s s5:=lA (CA []) 100000 58 [1,2,3,6,7,8,9,10,19,24,31,37,38] (K1 []) (jX _) (by kernel_rfl)
def Sg:Ob:=.box [L 1 3 [100,100,100],v0,v2,.bN,.bN,tt,0,0,L 1 3 [100,100,100],v0,.bN,.bN,.own 61,.own 62,.bN,L 3 1 [0,7,0],.bN]
def Si:Ob:=.box [L 1 3 [100,100,100],v0,v2,.bN,.bN,tt,0,0,L 1 3 [100,100,100],v0,.bN,.bN,.own 61,.own 62,.bN,L 3 1 [0,7,0],.bN,.bN]
def s6:St:=⟨fq [J,.bN,5000,.ptr 58 0,J,J,.ptr 59 0,0,.ptr 60 0,0,.ptr 63 0] (js 8 (fq [ff,J,J,J,J,ff] (js 6 (fq [ff] (js 5 (fq [U [],U []] (js 19 []))))))),vs 58 [vJ,lz,Sg,x4,lS,Si]⟩
theorem kw5:W (CA []).E 0 false (iv (cY 1 (cY 1 (cY 1 (cY 1 (cY 1 cR)))))) s5 λe s=>e= .normal/\eo 0 s s6:=lA (CA []) 100000 58 [1,2,3,6,7,8,9,10,19,24,31,37,38] (K1 []) (jX _) (by kernel_rfl)
def s7:St:=⟨fq [J,.bN,5000,.ptr 58 0,J,J,.ptr 59 0,0,.ptr 60 0,0,.ptr 63 0] (js 8 (fq [ff,J,J,J,J,ff] (js 6 (fq [ff] (js 5 (fq [5000,0] (js 19 []))))))),vs 58 [vJ,lz,Sg,x4,lS,Si]⟩
theorem kw6:W (CA []).E 0 false (iv (iv (cY 1 (cY 1 (cY 1 (cY 1 (cY 1 (cY 1 cR)))))))) s6 λe s=>e= .normal/\eo 0 s s7:=lA (CA []) 100000 58 [1,2,3,6,7,8,9,10,19,24,31,37,38] (K1 []) (jX _) (by kernel_rfl)
def s8:St:=⟨js 6 (fq [.ptr 58 0,0,J,J,.ptr 62 0] (js 26 (fq [5000,1] (js 19 [])))),vs 58 [lz,.row 79 8 3 (fQ 8 [0,100,tt,pe,43,v64,.bN,.bN,1,100,tt,S [],0,.bN,.bN,.bN,2,100,tt,S [],0,.bN,.bN,.bN]),lS,.row 385 6 1 (fQ 6 [0,1,0,1,m1,65]),.box [L 1 3 [100,100,100],v0,v2,.bN,.bN,tt,0,1,L 1 3 [100,100,100],v0,.bN,v44,.own 59,.own 60,.bN,HI,.own 61,.bN]]⟩
theorem kw7:W (CA []).E 0 false (oN (cY 1 (iv (cY 1 (cY 1 (cY 1 (cY 1 (cY 1 (cY 1 cR))))))))) s7 λe s=>e= .normal/\eo 0 s s8:=lA (CA []) 100000 58 [6,7,10,37,38] (K1 [n?,OI,x?,P!,zW,R_,T_,T?,aal,Pr,aam,aas]) (jX _) (by kernel_rfl)
def Sj:Ob:=.row 308 25 1 (fQ 25 [1,0,1,0,0,0,0,0,2,200,0,ff,v22,10,tt,25,tt,30,20,3,0,0,0,ff,ff])
def s9:St:=⟨js 6 (fq [.ptr 58 0,0,J,J,.ptr 63 0] (js 26 (fq [5000,2] (js 19 [])))),vs 58 [lz,.row 79 8 3 (fQ 8 [0,100,tt,pe,43,v64,.bN,qd,1,100,tt,S [],0,.bN,.bN,.bN,2,100,tt,S [],0,.bN,.bN,.bN]),lS,Sj,.row 385 6 2 (fQ 6 [0,1,0,1,m1,65,10,5,0,1,0,m1]),.box [L 1 3 [100,100,100],v0,v2,.bN,.bN,tt,10,2,L 1 3 [100,100,100],v0,.bN,v44,.own 59,.own 60,.own 61,HY,.own 62,.bN]]⟩
theorem kw8:W (CA []).E 0 false (oN (cY 1 (iv (cY 1 (cY 1 (cY 1 (cY 1 (cY 1 (cY 1 cR))))))))) s8 λe s=>e= .normal/\eo 0 s s9:=lA (CA []) 100000 58 [6,7,10,37,38] (K1 [aat,zW,aau,aaQ,aaS,acG,acM,acR,ac1]) (jX _) (by kernel_rfl)
def Sk:St:=⟨js 6 (fq [.ptr 58 0,0,J,J,.ptr 63 0] (js 26 (fq [5000,3] (js 19 [])))),vs 58 [lz,.row 79 8 3 (fQ 8 [0,100,tt,ko,43,.bN,.bN,.bN,1,100,tt,S [],0,.bN,.bN,.bN,2,100,tt,S [],0,.bN,.bN,.bN]),lS,Sj,.row 385 6 3 (fQ 6 [0,1,0,1,m1,65,10,5,0,1,0,m1,20,12,0,1,m1,m1]),.box [L 1 3 [100,100,100],v0,v2,.bN,.bN,tt,20,3,L 1 3 [100,100,100],v0,.bN,v44,.own 59,.own 60,.own 61,vz,.own 62,.bN]]⟩
theorem kw9:W (CA []).E 0 false (oN (cY 1 (iv (cY 1 (cY 1 (cY 1 (cY 1 (cY 1 (cY 1 cR))))))))) s9 λe s=>e= .normal/\eo 0 s Sk:=lA (CA []) 100000 58 [6,7,10,37,38] (K1 [ac3,ado]) (jX _) (by kernel_rfl)
def Sl:Ob:=.row 308 25 1 (fQ 25 [1,0,1,0,0,0,0,0,2,200,0,ff,v22,10,tt,25,tt,30,20,3,0,0,0,.kb true,.kb true])
def Sm:Ob:=.row 385 6 4 (fQ 6 [0,1,0,1,m1,65,10,5,0,1,0,m1,20,12,0,1,m1,m1,25,6,1,1,0,m1])
def Sn:St:=⟨js 6 (fq [.ptr 58 0,0,J,J,.ptr 63 0] (js 26 (fq [5000,4] (js 19 [])))),vs 58 [lz,.row 79 8 3 (fQ 8 [0,100,tt,ko,43,.bN,.bN,.bN,1,100,tt,v175,43,v64,.bN,.bN,2,100,tt,S [],0,.bN,.bN,.bN]),lS,Sl,Sm,.box [L 1 3 [100,100,100],v0,v2,.bN,.bN,tt,25,4,L 1 3 [100,100,100],v0,.bN,v44,.own 59,.own 60,.own 61,Eb,.own 62,.bN]]⟩
theorem aiA:W (CA []).E 0 false (oN (cY 1 (iv (cY 1 (cY 1 (cY 1 (cY 1 (cY 1 (cY 1 cR))))))))) Sk λe s=>e= .normal/\eo 0 s Sn:=lA (CA []) 100000 58 [6,7,10,37,38] (K1 [adr,adJ,Pr,adP,aeD]) (jX _) (by kernel_rfl)
def Sp:St:=⟨js 6 (fq [.ptr 58 0,0,J,J,.ptr 63 0] (js 26 (fq [5000,5] (js 19 [])))),vs 58 [lz,.row 79 8 3 (fQ 8 [0,100,tt,ko,55,.bN,.bN,.bN,1,100,tt,v175,43,v64,.bN,.bN,2,100,tt,S [],0,.bN,.bN,.bN]),lS,Sl,Sm,.box [L 1 3 [100,100,100],v0,v2,.bN,.bN,tt,30,5,L 1 3 [100,100,100],v0,.bN,v44,.own 59,.own 60,.own 61,QW,.own 62,.bN]]⟩
theorem aiB:W (CA []).E 0 false (oN (cY 1 (iv (cY 1 (cY 1 (cY 1 (cY 1 (cY 1 (cY 1 cR))))))))) Sn λe s=>e= .normal/\eo 0 s Sp:=lA (CA []) 100000 58 [6,7,10,37,38] (K1 [aeG,aeZ]) (jX _) (by kernel_rfl)
def Sq:Ob:=.row 308 25 2 (fQ 25 [1,0,1,0,0,0,0,0,2,200,0,ff,v22,10,tt,25,tt,30,20,3,0,0,0,.kb true,.kb true,1,1,1,0,0,0,0,0,2,200,0,ff,v22,50,tt,65,tt,70,60,3,0,0,0,ff,ff])
def Sr:St:=⟨js 6 (fq [.ptr 58 0,0,J,J,.ptr 63 0] (js 26 (fq [5000,6] (js 19 [])))),vs 58 [lz,.row 79 8 3 (fQ 8 [0,100,tt,ko,55,.bN,.bN,.bN,1,100,tt,v175,43,v64,.bN,qe,2,100,tt,S [],0,.bN,.bN,.bN]),lS,Sq,.row 385 6 5 (fQ 6 [0,1,0,1,m1,65,10,5,0,1,0,m1,20,12,0,1,m1,m1,25,6,1,1,0,m1,50,5,1,1,1,m1]),.box [L 1 3 [100,100,100],v0,v2,.bN,.bN,tt,50,6,L 1 3 [100,100,100],v0,.bN,v44,.own 59,.own 60,.own 61,Ia,.own 62,.bN]]⟩
theorem aiC:W (CA []).E 0 false (oN (cY 1 (iv (cY 1 (cY 1 (cY 1 (cY 1 (cY 1 (cY 1 cR))))))))) Sp λe s=>e= .normal/\eo 0 s Sr:=lA (CA []) 100000 58 [6,7,10,37,38] (K1 [ae1,zW,ae3,afl,afn,ago,ags,agx,agH]) (jX _) (by kernel_rfl)
def Ss:St:=⟨js 6 (fq [.ptr 58 0,0,J,J,.ptr 63 0] (js 26 (fq [5000,7] (js 19 [])))),vs 58 [lz,.row 79 8 3 (fQ 8 [0,100,tt,ko,55,.bN,.bN,.bN,1,100,tt,oJ,43,.bN,.bN,.bN,2,100,tt,S [],0,.bN,.bN,.bN]),lS,Sq,.row 385 6 6 (fQ 6 [0,1,0,1,m1,65,10,5,0,1,0,m1,20,12,0,1,m1,m1,25,6,1,1,0,m1,50,5,1,1,1,m1,60,12,1,1,m1,m1]),.box [L 1 3 [100,100,100],v0,v2,.bN,.bN,tt,60,7,L 1 3 [100,100,100],v0,.bN,v44,.own 59,.own 60,.own 61,vB,.own 62,.bN]]⟩
theorem aiD:W (CA []).E 0 false (oN (cY 1 (iv (cY 1 (cY 1 (cY 1 (cY 1 (cY 1 (cY 1 cR))))))))) Sr λe s=>e= .normal/\eo 0 s Ss:=lA (CA []) 100000 58 [6,7,10,37,38] (K1 [agL,ag5]) (jX _) (by kernel_rfl)
def AN:Ob:=.row 308 25 2 (fQ 25 [1,0,1,0,0,0,0,0,2,200,0,ff,v22,10,tt,25,tt,30,20,3,0,0,0,.kb true,.kb true,1,1,1,0,0,0,0,0,2,200,0,ff,v22,50,tt,65,tt,70,60,3,0,0,0,.kb true,.kb true])
def AO:Ob:=.row 385 6 7 (fQ 6 [0,1,0,1,m1,65,10,5,0,1,0,m1,20,12,0,1,m1,m1,25,6,1,1,0,m1,50,5,1,1,1,m1,60,12,1,1,m1,m1,65,7,2,1,1,m1])
def Su:St:=⟨js 6 (fq [.ptr 58 0,0,J,J,.ptr 63 0] (js 26 (fq [5000,8] (js 19 [])))),vs 58 [lz,.row 79 8 3 (fQ 8 [0,100,tt,ko,55,.bN,.bN,.bN,1,100,tt,oJ,43,.bN,.bN,.bN,2,100,tt,xQ,44,.bN,v64,.bN]),lS,AN,AO,.box [L 1 3 [100,100,100],v0,v2,.bN,.bN,tt,65,8,L 1 3 [100,100,100],v0,.bN,v44,.own 59,.own 60,.own 61,Ry,.own 62,.bN]]⟩
theorem aiE:W (CA []).E 0 false (oN (cY 1 (iv (cY 1 (cY 1 (cY 1 (cY 1 (cY 1 (cY 1 cR))))))))) Ss λe s=>e= .normal/\eo 0 s Su:=lA (CA []) 100000 58 [6,7,10,37,38] (K1 [aha,ahp,ahq]) (jX _) (by kernel_rfl)
def EF:Ob:=.row 79 8 3 (fQ 8 [0,100,tt,ko,55,.bN,.bN,.bN,1,100,tt,oJ,55,.bN,.bN,.bN,2,100,tt,xQ,44,.bN,v64,.bN])
def Sv:St:=⟨js 6 (fq [.ptr 58 0,0,J,J,.ptr 63 0] (js 26 (fq [5000,9] (js 19 [])))),vs 58 [lz,EF,lS,AN,AO,.box [L 1 3 [100,100,100],v0,v2,.bN,.bN,tt,70,9,L 1 3 [100,100,100],v0,.bN,v44,.own 59,.own 60,.own 61,v198,.own 62,.bN]]⟩
theorem aiF:W (CA []).E 0 false (oN (cY 1 (iv (cY 1 (cY 1 (cY 1 (cY 1 (cY 1 (cY 1 cR))))))))) Su λe s=>e= .normal/\eo 0 s Sv:=lA (CA []) 100000 58 [6,7,10,37,38] (K1 [ahu,ahN]) (jX _) (by kernel_rfl)
def Sw:St:=⟨js 6 (fq [.ptr 58 0,0,J,J,.ptr 63 0] (js 26 (fq [5000,10] (js 19 [])))),vs 58 [lz,EF,lS,AN,AO,.box [L 1 3 [100,100,100],v0,v2,.bN,.bN,tt,200,10,L 1 3 [100,100,100],v0,.bN,v44,.own 59,.own 60,.own 61,L 3 1 [200,5,1],.own 62,.bN]]⟩
theorem aiG:W (CA []).E 0 false (oN (cY 1 (iv (cY 1 (cY 1 (cY 1 (cY 1 (cY 1 (cY 1 cR))))))))) Sv λe s=>e= .normal/\eo 0 s Sw:=lA (CA []) 100000 58 [6,7,10,37,38] (K1 [ahQ,aiq]) (jX _) (by kernel_rfl)
def Sx:Ob:=.box [L 1 3 [100,100,100],v0,v2,.bN,.bN,tt,200,11,L 1 3 [100,100,100],v0,.bN,v44,.own 59,.own 60,.own 61,L 3 0 [],.own 62,.bN]
def Sz:St:=⟨js 6 (fq [.ptr 58 0,0,J,J,.ptr 63 0] (js 26 (fq [5000,11] (js 19 [])))),vs 58 [lz,EF,lS,AN,AO,Sx]⟩
theorem aiH:W (CA []).E 0 false (oN (cY 1 (iv (cY 1 (cY 1 (cY 1 (cY 1 (cY 1 (cY 1 cR))))))))) Sw λe s=>e= .normal/\eo 0 s Sz:=lA (CA []) 100000 58 [6,7,10,37,38] (K1 [ait,aix]) (jX _) (by kernel_rfl)
def SA:St:=⟨js 6 (fq [.ptr 58 0,0,J,J,.ptr 63 0] (js 26 (fq [5000,11] (js 19 [])))),vs 58 [lz,EF,lS,AN,AO,Sx]⟩
theorem aiI:W (CA []).E 0 false (oN (cY 1 (iv (cY 1 (cY 1 (cY 1 (cY 1 (cY 1 (cY 1 cR))))))))) Sz λe s=>e=(.exit 0)/\eo 0 s SA:=lA (CA []) 100000 58 [6,7,10,37,38] (K1 [aiz]) (jX _) (by kernel_rfl)
theorem kwE:W (CA []).E 0 false (cY 1 (cY 1 (cY 1 (cY 1 (cY 1 (cY 1 (cY 1 cR))))))) SA λe s=>qk Tryz.prog (I8 Tryz.prog 18) xZ.res xZ.ob xZ.fr e s=true:=aiJ (CA []) 100000 58 (K1 []) (jX _) (by kernel_rfl)
theorem aiK:jI Tryz.prog xZ:=aiL (E:=(CA []).E) rfl (by kernel_rfl) (code:=(.seq (iv cR) (.seq (iv (cY 1 cR)) (.seq (iv (cY 1 (cY 1 cR))) (.seq (iv (cY 1 (cY 1 (cY 1 cR)))) (.seq (iv (cY 1 (cY 1 (cY 1 (cY 1 cR))))) (.seq (iv (cY 1 (cY 1 (cY 1 (cY 1 (cY 1 cR)))))) (.seq (.seq (iv (iv (cY 1 (cY 1 (cY 1 (cY 1 (cY 1 (cY 1 cR)))))))) (.block 0 (.loop (oN (cY 1 (iv (cY 1 (cY 1 (cY 1 (cY 1 (cY 1 (cY 1 cR)))))))))))) (cY 1 (cY 1 (cY 1 (cY 1 (cY 1 (cY 1 (cY 1 cR))))))))))))))) (by kernel_rfl) (W.ud kw0 (W.ud kw1 (W.ud kw2 (W.ud kw3 (W.ud kw4 (W.ud kw5 (W.ud (W.sq2 kw6 (W.aiM (aa kw7 (aa kw8 (aa kw9 (aa aiA (aa aiB (aa aiC (aa aiD (aa aiE (aa aiF (aa aiG (aa aiH (WR.last aiI λs h=>⟨rfl,h⟩)))))))))))))) kwE)))))))
def aiN:KK:=⟨xZ,aiK⟩
def aiO:=q 6 [] tt [k1,aiN]
end Go.Proofs.YtjhmdfofhnijeaaGreatDoor
