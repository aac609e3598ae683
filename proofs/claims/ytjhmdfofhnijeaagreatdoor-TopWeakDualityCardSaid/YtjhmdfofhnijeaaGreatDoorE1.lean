import Derived.Test.YtjhmdfofhnijeaaGreatDoorD1
set_option linter.unusedSimpArgs false
set_option linter.unusedSectionVars false
set_option linter.unusedVariables false
namespace Go.Proofs.YtjhmdfofhnijeaaGreatDoor
open Go.Sy
set_option maxRecDepth 100000
set_option maxHeartbeats 4000000
def k785:=qo 220 [v244] (.own 0) (some (.row 143 3 4 (tbl 3 [65,2,1,70,3,1,200,5,0,200,5,1]))) []
def v245:A:=L 3 5 [60,4,1,65,2,1,70,3,1,200,5,0,200,5,1]
def k786:KK:=⟨⟨169,[v244,G [60,4,1]],U [v245,0],none,false⟩,kAdd _ 0 (60) (4) (1) k778.2 k779.2 k784.2 k785.2 rfl (by kernel_rfl)⟩
def v246:A:=L 25 2 [1,0,1,0,0,0,0,0,2,200,0,ff,v22,10,tt,25,tt,30,20,3,0,0,0,.kb true,.kb true,1,1,1,0,0,0,0,0,2,200,0,ff,v22,50,tt,65,tt,70,60,3,0,0,0,ff,ff]
def v247:A:=L 6 5 [0,1,0,1,I (-1),65,10,5,0,1,0,I (-1),20,12,0,1,I (-1),I (-1),25,6,1,1,0,I (-1),50,5,1,1,1,I (-1)]
def v248:A:=G [L 1 3 [100,100,100],v0,v2,.nils,.nils,tt,50,6,L 1 3 [100,100,100],v0,.nils,v44,v207,L 1 3 [0,0,0],v246,v245,v247]
def v249:A:=U [G [60,4,1],tt]
def k787:=q 53 [v248] v249 []
def k788:=q 330 [v204] 0 [k689]
def k789:=q 292 [v204,.fn 331 [.ip 2 (getA [v64,.nils])]] (I (-1)) [k324]
def k790:=q 227 [v204,.fn 331 [.ip 2 (getA [v64,.nils])]] ff [k789]
def k791:=q 283 [v205] tt [k679,k682,k307,k206,k315,k788,k790]
def k792:=q 221 [v205] 0 [k35,k33,k286,k791]
def k793:=q 168 [60,0,1099511627776] tt []
def v250:A:=G [4,60,0,0,0,0,0,0,0,0,0,ff,S [],0,0,0,0,0,0,0,ff,0]
def k794:=q 342 [v250] 0 [k529,k224,k225,k793]
def k795:=q 466 [v204,.fn 474 [.ip 1 (getA [60])]] (U [v204,.nils]) []
def k796:=qo 416 [v204,60] (U [v204,.nils,0]) none [k788,k795]
def k797:=q 398 [60,0,1099511627776] tt []
def v251:A:=G [2,0,0,0,0,0,0,0,0,0,ff,S [],0,0,0,0,0,0,60]
def k798:=q 340 [v251] 0 [k220,k797,k223]
def k799:=q 444 [60] tt []
def v252:A:=.fn 611 [.ip 1 (getA [S [14,4,120,0,0,0,0,0]])]
def k805:=qo 585 [S [14,4,120,0,0,0,0,0]] v252 none []
def k806:=q 540 [.int .u32 4294967295,S [14,4,120,0,0,0,0,0]] (.int .u32 210997530) [k74,k805]
def k807:=q 505 [S [14,4,120,0,0,0,0,0]] 4083969765 [k806]
def k808:=q 448 [S [14,4,120,0,0,0,0,0]] (S [229,110,108,243]) [k807]
def v253:A:=S [14,4,120,0,0,0,0,0,229,110,108,243]
def v254:A:=L 19 1 [2,0,0,0,0,0,0,0,0,0,ff,S [],0,0,0,0,0,0,60]
def v255:A:=S [76,2,50,2,0,0,0,0,0,4,131,16,0,0,48,38,6,77,66,49,0,0,0,0,0,2,4,131,16,0,0,0,4,104,105,212,203,109,147,19,253,98,34,14,4,120,0,0,0,0,0,229,110,108,243]
def k811:KK:=⟨⟨288,[v175,v254],U [v255,0],none,true⟩,kApp _ rfl (by kernel_rfl)⟩
def k812:=q 289 [G [v64,.nils],v251] (U [G [.nils,.nils],0]) [k313,k798,k204,k555]
def v256:A:=G [1,100,tt,v255,43,.nils,.nils,.nils]
def k813:=q 291 [v205,v250] (U [v256,v164,0]) [k794,k796,k324,k534,k811,k812,k557,k558]
def k814:=qo 226 [v205,v250] (U [v256,v164,0]) none [k792,k813]
def v257:A:=L 8 3 [0,100,tt,v161,55,.nils,.nils,.nils,1,100,tt,v255,43,.nils,.nils,.nils,2,100,tt,S [],0,.nils,.nils,.nils]
def v258:A:=L 6 6 [0,1,0,1,I (-1),65,10,5,0,1,0,I (-1),20,12,0,1,I (-1),I (-1),25,6,1,1,0,I (-1),50,5,1,1,1,I (-1),60,12,1,1,I (-1),I (-1)]
def v259:A:=G [L 1 3 [100,100,100],v0,v2,.nils,.nils,tt,60,7,L 1 3 [100,100,100],v0,.nils,v44,v257,L 1 3 [0,0,0],v246,v244,v258]
def v260:A:=U [G [65,2,1],tt]
def k815:=q 53 [v259] v260 []
def k816:=q 283 [v14] tt [k201,k205,k206,k213,k214,k216]
def k817:=q 221 [v14] 0 [k37,k33,k197,k816]
def k818:=q 168 [65,0,1099511627776] tt []
def v261:A:=G [1,65,1,0,0,0,0,0,2,200,0,ff,v22,0,0,0,0,0,0,0,ff,0]
def k819:=q 342 [v261] 0 [k219,k224,k225,k818,k234]
def k820:=q 287 [65] tt []
def v262:A:=L 19 1 [3,1,0,0,0,0,0,2,200,0,ff,v22,0,0,0,0,0,0,65]
def k821:=q 409 [G [.nils,.nils],2,100,v50,65] (U [v262,2,0]) [k211,k236,k207,k820,k239]
def v263:A:=.ip 32 (getA [2,100,tt,S [],0,.nils,.nils,.nils,1,65,1,0,0,0,0,0,2,200,0,ff,v22,0,0,0,0,0,0,0,ff,0,.nils,0])
def k822:=q 292 [.nils,.fn 410 [.ip 1 (getA [v263])]] (I (-1)) []
def k823:=q 227 [.nils,.fn 410 [.ip 1 (getA [v263])]] ff [k822]
def k824:=q 398 [3,1,4] tt []
def k825:=q 398 [65,0,1099511627776] tt []
def v264:A:=G [3,1,0,0,0,0,0,2,200,0,ff,v22,0,0,0,0,0,0,65]
def k826:=q 340 [v264] 0 [k824,k825,k233]
def v267:A:=S [78,6,129,2,2,0,0,0,0,0,4,131,16,0,0,48,38,6,77,66,49,0,0,0,0,0,2,4,131,16,0,0,0,4,104,105,212,203,109,147,32,211,105,107]
def k843:KK:=⟨⟨288,[S [],v262],U [v267,0],none,true⟩,kApp _ rfl (by kernel_rfl)⟩
def k844:=qo 289 [G [.nils,.nils],v264] (U [G [.nils,v64],0]) none [k211,k826,k204,k263]
def v268:A:=G [2,100,tt,v267,44,.nils,v64,.nils]
def v269:A:=L 14 1 [2,1,0,0,0,0,0,2,200,0,ff,v22,0,2]
def k845:=qo 291 [v14,v261] (U [v268,v269,0]) none [k819,k821,k823,k843,k844]
def k846:=qo 226 [v14,v261] (U [v268,v269,0]) none [k817,k845]
def k847:=q 172 [v269,tt] (U [tt,2]) []
def v270:A:=L 8 3 [0,100,tt,v161,55,.nils,.nils,.nils,1,100,tt,v255,43,.nils,.nils,.nils,2,100,tt,v267,44,.nils,v64,.nils]
def v271:A:=L 25 2 [1,0,1,0,0,0,0,0,2,200,0,ff,v22,10,tt,25,tt,30,20,3,0,0,0,.kb true,.kb true,1,1,1,0,0,0,0,0,2,200,0,ff,v22,50,tt,65,tt,70,60,3,0,0,0,.kb true,.kb true]
def v272:A:=L 3 3 [70,3,1,200,5,0,200,5,1]
def v273:A:=L 6 7 [0,1,0,1,I (-1),65,10,5,0,1,0,I (-1),20,12,0,1,I (-1),I (-1),25,6,1,1,0,I (-1),50,5,1,1,1,I (-1),60,12,1,1,I (-1),I (-1),65,7,2,1,1,I (-1)]
def v274:A:=G [L 1 3 [100,100,100],v0,v2,.nils,.nils,tt,65,8,L 1 3 [100,100,100],v0,.nils,v44,v270,L 1 3 [0,0,0],v271,v272,v273]
def v275:A:=U [G [70,3,1],tt]
def k848:=q 53 [v274] v275 []
def k849:=q 522 [v255] (U [38,1,0]) [k250]
def k850:=q 458 [v255] (U [v173,43,0]) [k849,k581]
def k851:=q 389 [v255] (U [v172,43,tt]) [k850,k676,k677,k291,k292,k293,k294,k295,k296,k297,k298,k299,k300,k301,k571]
def k852:=q 522 [v253] (U [7,1,0]) [k543]
def v276:A:=U [S [4,120,0,0,0,0,0],12,0]
def k853:=q 458 [v253] v276 [k852,k808]
def k854:=q 522 [S [4,120,0,0,0,0,0]] (U [2,1,0]) [k59]
def k855:=q 522 [S [120,0,0,0,0,0]] (U [60,1,0]) [k799]
def k856:=q 389 [v253] (U [v251,12,tt]) [k853,k854,k855,k653,k654,k655,k656,k657,k798]
def v277:A:=L 19 2 [1,1,0,0,0,0,0,2,200,0,ff,v22,0,0,0,0,0,0,25,2,0,0,0,0,0,0,0,0,0,ff,S [],0,0,0,0,0,0,60]
def k857:=q 326 [v255] (U [v277,55,0]) [k851,k856,k200]
def k858:=q 460 [v277,.fn 391 []] (I (-1)) [k571,k798]
def k859:=q 390 [v277,.fn 391 []] ff [k858]
def k860:=q 327 [v277] (U [G [.nils,.nils],0]) [k859,k204,k263,k555]
def k861:=q 283 [v256] tt [k857,k860,k206,k213,k214,k216]
def k862:=q 221 [v256] 0 [k35,k33,k645,k861]
def k863:=q 168 [70,0,1099511627776] tt []
def v278:A:=G [3,70,0,0,0,0,0,0,0,0,0,ff,S [],0,0,0,0,0,1,0,tt,0]
def k864:=q 342 [v278] 0 [k665,k224,k685,k863]
def k865:=q 466 [.nils,.fn 470 [v56,.ip 1 (getA [1])]] (U [.nils,.nils]) []
def k866:=q 414 [.nils,G [0,0,0,0,0],1,ff] (U [.nils,1,0]) [k214,k865,k557]
def v279:A:=G [1,100,tt,v255,55,.nils,.nils,.nils]
def k867:=q 291 [v256,v278] (U [v279,.nils,0]) [k864,k866]
def k868:=q 226 [v256,v278] (U [v279,.nils,0]) [k862,k867]
def v280:A:=L 8 3 [0,100,tt,v161,55,.nils,.nils,.nils,1,100,tt,v255,55,.nils,.nils,.nils,2,100,tt,v267,44,.nils,v64,.nils]
def v281:A:=G [L 1 3 [100,100,100],v0,v2,.nils,.nils,tt,70,9,L 1 3 [100,100,100],v0,.nils,v44,v280,L 1 3 [0,0,0],v271,v198,v273]
def v282:A:=U [G [200,5,0],tt]
def k869:=q 53 [v281] v282 []
def k870:=q 168 [55,0,55] tt []
def k871:=q 283 [v193] tt [k659,k662,k206,k213,k214,k216]
def k872:=q 221 [v193] 0 [k32,k33,k870,k871]
def k873:=q 168 [5,1,7] tt []
def k874:=q 168 [200,0,1099511627776] tt []
def v283:A:=G [5,200,0,0,0,0,0,0,0,0,0,ff,S [],0,0,0,0,0,0,0,ff,0]
def k875:=q 342 [v283] 0 [k873,k224,k225,k874]
def k876:=q 287 [200] tt []
def k877:=q 223 [G [.nils,.nils],200] (U [.nils,0]) [k211,k876]
def k878:=q 291 [v193,v283] (U [v193,.nils,0]) [k875,k877]
def k879:=q 226 [v193,v283] (U [v193,.nils,0]) [k872,k878]
def v284:A:=G [L 1 3 [100,100,100],v0,v2,.nils,.nils,tt,200,10,L 1 3 [100,100,100],v0,.nils,v44,v280,L 1 3 [0,0,0],v271,L 3 1 [200,5,1],v273]
def v285:A:=U [G [200,5,1],tt]
def k880:=q 53 [v284] v285 []
def k881:=q 283 [v279] tt [k857,k860,k206,k213,k214,k216]
def k882:=q 221 [v279] 0 [k35,k33,k870,k881]
def k883:=q 291 [v279,v283] (U [v279,.nils,0]) [k875,k877]
def k884:=q 226 [v279,v283] (U [v279,.nils,0]) [k882,k883]
def v286:A:=G [L 1 3 [100,100,100],v0,v2,.nils,.nils,tt,200,11,L 1 3 [100,100,100],v0,.nils,v44,v280,L 1 3 [0,0,0],v271,L 3 0 [],v273]
def v287:A:=U [G [0,0,0],ff]
def k885:=q 53 [v286] v287 []
def c886:Ct:=⟨18,[v3,.nils,5000],U [v286,0],none,false⟩
noncomputable def cR:Code:=bodyC Tryz.prog 18
def s0:St:=st0 58 c886.args []
def s1:St:=⟨[J,.nils,5000,.ptr 58 0,J,J,.ptr 59 0,0,U [],U [],U [],J,J,J,J,J,J,J,J,U [],J,J,J,J,U [],J,J,J,J,J,J,U [],J,J,J,J,J,U [],U [],J,J,J,J,J,J,J,J,J,J,J,J,J,J,J,J,J,J,J],[V,V,V,V,V,V,V,V,V,V,V,V,V,V,V,V,V,V,V,V,V,V,V,V,V,V,V,V,V,V,V,V,V,V,V,V,V,V,V,V,V,V,V,V,V,V,V,V,V,V,V,V,V,V,V,V,V,V,.box [L 1 3 [100,100,100],v0,v2,.nils,.nils,tt],.box [.nils,.nils,.nils,.nils,.nils,ff,0,0,.nils,.nils,.nils,.nils,.nils,.nils,.nils,.nils,.nils]]⟩
theorem kw0:W (CA []).E 0 false (seqL cR) s0 fun e s=>e = .normal /\ Weak 0 s s1:=autoW_ok (CA []) 100000 58 [1,2,3,6,7,8,9,10,19,24,31,37,38] (K1 []) (K1_ok _) (by kernel_rfl)
def s2:St:=⟨[J,.nils,5000,.ptr 58 0,J,J,.ptr 59 0,0,.ptr 62 0,0,U [],J,J,J,J,J,J,J,J,U [],J,J,J,J,U [],J,J,J,J,J,J,U [],J,J,J,J,J,U [],U [],J,J,J,J,J,J,J,J,J,J,J,J,J,J,J,J,J,J,J],[V,V,V,V,V,V,V,V,V,V,V,V,V,V,V,V,V,V,V,V,V,V,V,V,V,V,V,V,V,V,V,V,V,V,V,V,V,V,V,V,V,V,V,V,V,V,V,V,V,V,V,V,V,V,V,V,V,V,.box [L 1 3 [100,100,100],v0,v2,.nils,.nils,tt],.box [.nils,.nils,.nils,.nils,.nils,ff,0,0,.nils,.nils,.nils,.nils,.nils,.nils,.nils,.nils,.nils],.row 79 8 3 (tbl 8 [0,100,tt,S [],0,.nils,.nils,.nils,1,100,tt,S [],0,.nils,.nils,.nils,2,100,tt,S [],0,.nils,.nils,.nils]),.row 3 1 3 (tbl 1 [0,0,0]),.box [L 1 3 [100,100,100],v0,v2,.nils,.nils,tt,0,0,L 1 3 [100,100,100],v0,.nils,.nils,.own 60,.own 61,.nils,L 3 1 [0,7,0],.nils]]⟩
theorem kw1:W (CA []).E 0 false (seqL (seqR 1 cR)) s1 fun e s=>e = .normal /\ Weak 0 s s2:=autoW_ok (CA []) 100000 58 [1,2,3,6,7,8,9,10,19,24,31,37,38] (K1 [k30,k31,k34,k36,k38,k43]) (K1_ok _) (by kernel_rfl)
def s3:St:=⟨[J,.nils,5000,.ptr 58 0,J,J,.ptr 59 0,0,.ptr 62 0,0,U [],J,J,J,J,J,J,J,J,ff,J,J,J,J,U [],J,J,J,J,J,J,U [],J,J,J,J,J,U [],U [],J,J,J,J,J,J,J,J,J,J,J,J,J,J,J,J,J,J,J],[V,V,V,V,V,V,V,V,V,V,V,V,V,V,V,V,V,V,V,V,V,V,V,V,V,V,V,V,V,V,V,V,V,V,V,V,V,V,V,V,V,V,V,V,V,V,V,V,V,V,V,V,V,V,V,V,V,V,.box [L 1 3 [100,100,100],v0,v2,.nils,.nils,tt],.box [.nils,.nils,.nils,.nils,.nils,ff,0,0,.nils,.nils,.nils,.nils,.nils,.nils,.nils,.nils,.nils],.row 79 8 3 (tbl 8 [0,100,tt,S [],0,.nils,.nils,.nils,1,100,tt,S [],0,.nils,.nils,.nils,2,100,tt,S [],0,.nils,.nils,.nils]),.row 3 1 3 (tbl 1 [0,0,0]),.box [L 1 3 [100,100,100],v0,v2,.nils,.nils,tt,0,0,L 1 3 [100,100,100],v0,.nils,.nils,.own 60,.own 61,.nils,L 3 1 [0,7,0],.nils]]⟩
theorem kw2:W (CA []).E 0 false (seqL (seqR 1 (seqR 1 cR))) s2 fun e s=>e = .normal /\ Weak 0 s s3:=autoW_ok (CA []) 100000 58 [1,2,3,6,7,8,9,10,19,24,31,37,38] (K1 []) (K1_ok _) (by kernel_rfl)
def s4:St:=⟨[J,.nils,5000,.ptr 58 0,J,J,.ptr 59 0,0,.ptr 62 0,0,U [],J,J,J,J,J,J,J,J,ff,J,J,J,J,ff,J,J,J,J,J,J,U [],J,J,J,J,J,U [],U [],J,J,J,J,J,J,J,J,J,J,J,J,J,J,J,J,J,J,J],[V,V,V,V,V,V,V,V,V,V,V,V,V,V,V,V,V,V,V,V,V,V,V,V,V,V,V,V,V,V,V,V,V,V,V,V,V,V,V,V,V,V,V,V,V,V,V,V,V,V,V,V,V,V,V,V,V,V,.box [L 1 3 [100,100,100],v0,v2,.nils,.nils,tt],.box [.nils,.nils,.nils,.nils,.nils,ff,0,0,.nils,.nils,.nils,.nils,.nils,.nils,.nils,.nils,.nils],.row 79 8 3 (tbl 8 [0,100,tt,S [],0,.nils,.nils,.nils,1,100,tt,S [],0,.nils,.nils,.nils,2,100,tt,S [],0,.nils,.nils,.nils]),.row 3 1 3 (tbl 1 [0,0,0]),.box [L 1 3 [100,100,100],v0,v2,.nils,.nils,tt,0,0,L 1 3 [100,100,100],v0,.nils,.nils,.own 60,.own 61,.nils,L 3 1 [0,7,0],.nils]]⟩
theorem kw3:W (CA []).E 0 false (seqL (seqR 1 (seqR 1 (seqR 1 cR)))) s3 fun e s=>e = .normal /\ Weak 0 s s4:=autoW_ok (CA []) 100000 58 [1,2,3,6,7,8,9,10,19,24,31,37,38] (K1 []) (K1_ok _) (by kernel_rfl)
def s5:St:=⟨[J,.nils,5000,.ptr 58 0,J,J,.ptr 59 0,0,.ptr 62 0,0,U [],J,J,J,J,J,J,J,J,ff,J,J,J,J,ff,J,J,J,J,J,J,ff,J,J,J,J,J,U [],U [],J,J,J,J,J,J,J,J,J,J,J,J,J,J,J,J,J,J,J],[V,V,V,V,V,V,V,V,V,V,V,V,V,V,V,V,V,V,V,V,V,V,V,V,V,V,V,V,V,V,V,V,V,V,V,V,V,V,V,V,V,V,V,V,V,V,V,V,V,V,V,V,V,V,V,V,V,V,.box [L 1 3 [100,100,100],v0,v2,.nils,.nils,tt],.box [.nils,.nils,.nils,.nils,.nils,ff,0,0,.nils,.nils,.nils,.nils,.nils,.nils,.nils,.nils,.nils],.row 79 8 3 (tbl 8 [0,100,tt,S [],0,.nils,.nils,.nils,1,100,tt,S [],0,.nils,.nils,.nils,2,100,tt,S [],0,.nils,.nils,.nils]),.row 3 1 3 (tbl 1 [0,0,0]),.box [L 1 3 [100,100,100],v0,v2,.nils,.nils,tt,0,0,L 1 3 [100,100,100],v0,.nils,.nils,.own 60,.own 61,.nils,L 3 1 [0,7,0],.nils]]⟩
theorem kw4:W (CA []).E 0 false (seqL (seqR 1 (seqR 1 (seqR 1 (seqR 1 cR))))) s4 fun e s=>e = .normal /\ Weak 0 s s5:=autoW_ok (CA []) 100000 58 [1,2,3,6,7,8,9,10,19,24,31,37,38] (K1 []) (K1_ok _) (by kernel_rfl)
def s6:St:=⟨[J,.nils,5000,.ptr 58 0,J,J,.ptr 59 0,0,.ptr 60 0,0,.ptr 63 0,J,J,J,J,J,J,J,J,ff,J,J,J,J,ff,J,J,J,J,J,J,ff,J,J,J,J,J,U [],U [],J,J,J,J,J,J,J,J,J,J,J,J,J,J,J,J,J,J,J],[V,V,V,V,V,V,V,V,V,V,V,V,V,V,V,V,V,V,V,V,V,V,V,V,V,V,V,V,V,V,V,V,V,V,V,V,V,V,V,V,V,V,V,V,V,V,V,V,V,V,V,V,V,V,V,V,V,V,.box [L 1 3 [100,100,100],v0,v2,.nils,.nils,tt],.box [.nils,.nils,.nils,.nils,.nils,ff,0,0,.nils,.nils,.nils,.nils,.nils,.nils,.nils,.nils,.nils],.box [L 1 3 [100,100,100],v0,v2,.nils,.nils,tt,0,0,L 1 3 [100,100,100],v0,.nils,.nils,.own 61,.own 62,.nils,L 3 1 [0,7,0],.nils],.row 79 8 3 (tbl 8 [0,100,tt,S [],0,.nils,.nils,.nils,1,100,tt,S [],0,.nils,.nils,.nils,2,100,tt,S [],0,.nils,.nils,.nils]),.row 3 1 3 (tbl 1 [0,0,0]),.box [L 1 3 [100,100,100],v0,v2,.nils,.nils,tt,0,0,L 1 3 [100,100,100],v0,.nils,.nils,.own 61,.own 62,.nils,L 3 1 [0,7,0],.nils,.nils]]⟩
theorem kw5:W (CA []).E 0 false (seqL (seqR 1 (seqR 1 (seqR 1 (seqR 1 (seqR 1 cR)))))) s5 fun e s=>e = .normal /\ Weak 0 s s6:=autoW_ok (CA []) 100000 58 [1,2,3,6,7,8,9,10,19,24,31,37,38] (K1 []) (K1_ok _) (by kernel_rfl)
def s7:St:=⟨[J,.nils,5000,.ptr 58 0,J,J,.ptr 59 0,0,.ptr 60 0,0,.ptr 63 0,J,J,J,J,J,J,J,J,ff,J,J,J,J,ff,J,J,J,J,J,J,ff,J,J,J,J,J,5000,0,J,J,J,J,J,J,J,J,J,J,J,J,J,J,J,J,J,J,J],[V,V,V,V,V,V,V,V,V,V,V,V,V,V,V,V,V,V,V,V,V,V,V,V,V,V,V,V,V,V,V,V,V,V,V,V,V,V,V,V,V,V,V,V,V,V,V,V,V,V,V,V,V,V,V,V,V,V,.box [L 1 3 [100,100,100],v0,v2,.nils,.nils,tt],.box [.nils,.nils,.nils,.nils,.nils,ff,0,0,.nils,.nils,.nils,.nils,.nils,.nils,.nils,.nils,.nils],.box [L 1 3 [100,100,100],v0,v2,.nils,.nils,tt,0,0,L 1 3 [100,100,100],v0,.nils,.nils,.own 61,.own 62,.nils,L 3 1 [0,7,0],.nils],.row 79 8 3 (tbl 8 [0,100,tt,S [],0,.nils,.nils,.nils,1,100,tt,S [],0,.nils,.nils,.nils,2,100,tt,S [],0,.nils,.nils,.nils]),.row 3 1 3 (tbl 1 [0,0,0]),.box [L 1 3 [100,100,100],v0,v2,.nils,.nils,tt,0,0,L 1 3 [100,100,100],v0,.nils,.nils,.own 61,.own 62,.nils,L 3 1 [0,7,0],.nils,.nils]]⟩
theorem kw6:W (CA []).E 0 false (seqL (seqL (seqR 1 (seqR 1 (seqR 1 (seqR 1 (seqR 1 (seqR 1 cR)))))))) s6 fun e s=>e = .normal /\ Weak 0 s s7:=autoW_ok (CA []) 100000 58 [1,2,3,6,7,8,9,10,19,24,31,37,38] (K1 []) (K1_ok _) (by kernel_rfl)
def s8:St:=⟨[J,J,J,J,J,J,.ptr 58 0,0,J,J,.ptr 62 0,J,J,J,J,J,J,J,J,J,J,J,J,J,J,J,J,J,J,J,J,J,J,J,J,J,J,5000,1,J,J,J,J,J,J,J,J,J,J,J,J,J,J,J,J,J,J,J],[V,V,V,V,V,V,V,V,V,V,V,V,V,V,V,V,V,V,V,V,V,V,V,V,V,V,V,V,V,V,V,V,V,V,V,V,V,V,V,V,V,V,V,V,V,V,V,V,V,V,V,V,V,V,V,V,V,V,.box [.nils,.nils,.nils,.nils,.nils,ff,0,0,.nils,.nils,.nils,.nils,.nils,.nils,.nils,.nils,.nils],.row 79 8 3 (tbl 8 [0,100,tt,v63,43,v64,.nils,.nils,1,100,tt,S [],0,.nils,.nils,.nils,2,100,tt,S [],0,.nils,.nils,.nils]),.row 3 1 3 (tbl 1 [0,0,0]),.row 385 6 1 (tbl 6 [0,1,0,1,I (-1),65]),.box [L 1 3 [100,100,100],v0,v2,.nils,.nils,tt,0,1,L 1 3 [100,100,100],v0,.nils,v44,.own 59,.own 60,.nils,v69,.own 61,.nils]]⟩
theorem kw7:W (CA []).E 0 false (loopC (seqR 1 (seqL (seqR 1 (seqR 1 (seqR 1 (seqR 1 (seqR 1 (seqR 1 cR))))))))) s7 fun e s=>e = .normal /\ Weak 0 s s8:=autoW_ok (CA []) 100000 58 [6,7,10,37,38] (K1 [k44,k45,k83,k179,k180,k184,k195,k196,k266,k267,k268,k282]) (K1_ok _) (by kernel_rfl)
def s9:St:=⟨[J,J,J,J,J,J,.ptr 58 0,0,J,J,.ptr 63 0,J,J,J,J,J,J,J,J,J,J,J,J,J,J,J,J,J,J,J,J,J,J,J,J,J,J,5000,2,J,J,J,J,J,J,J,J,J,J,J,J,J,J,J,J,J,J,J],[V,V,V,V,V,V,V,V,V,V,V,V,V,V,V,V,V,V,V,V,V,V,V,V,V,V,V,V,V,V,V,V,V,V,V,V,V,V,V,V,V,V,V,V,V,V,V,V,V,V,V,V,V,V,V,V,V,V,.box [.nils,.nils,.nils,.nils,.nils,ff,0,0,.nils,.nils,.nils,.nils,.nils,.nils,.nils,.nils,.nils],.row 79 8 3 (tbl 8 [0,100,tt,v63,43,v64,.nils,v89,1,100,tt,S [],0,.nils,.nils,.nils,2,100,tt,S [],0,.nils,.nils,.nils]),.row 3 1 3 (tbl 1 [0,0,0]),.row 308 25 1 (tbl 25 [1,0,1,0,0,0,0,0,2,200,0,ff,v22,10,tt,25,tt,30,20,3,0,0,0,ff,ff]),.row 385 6 2 (tbl 6 [0,1,0,1,I (-1),65,10,5,0,1,0,I (-1)]),.box [L 1 3 [100,100,100],v0,v2,.nils,.nils,tt,10,2,L 1 3 [100,100,100],v0,.nils,v44,.own 59,.own 60,.own 61,v150,.own 62,.nils]]⟩
theorem kw8:W (CA []).E 0 false (loopC (seqR 1 (seqL (seqR 1 (seqR 1 (seqR 1 (seqR 1 (seqR 1 (seqR 1 cR))))))))) s8 fun e s=>e = .normal /\ Weak 0 s s9:=autoW_ok (CA []) 100000 58 [6,7,10,37,38] (K1 [k283,k180,k285,k333,k335,k480,k496,k507,k522]) (K1_ok _) (by kernel_rfl)
def s10:St:=⟨[J,J,J,J,J,J,.ptr 58 0,0,J,J,.ptr 63 0,J,J,J,J,J,J,J,J,J,J,J,J,J,J,J,J,J,J,J,J,J,J,J,J,J,J,5000,3,J,J,J,J,J,J,J,J,J,J,J,J,J,J,J,J,J,J,J],[V,V,V,V,V,V,V,V,V,V,V,V,V,V,V,V,V,V,V,V,V,V,V,V,V,V,V,V,V,V,V,V,V,V,V,V,V,V,V,V,V,V,V,V,V,V,V,V,V,V,V,V,V,V,V,V,V,V,.box [.nils,.nils,.nils,.nils,.nils,ff,0,0,.nils,.nils,.nils,.nils,.nils,.nils,.nils,.nils,.nils],.row 79 8 3 (tbl 8 [0,100,tt,v161,43,.nils,.nils,.nils,1,100,tt,S [],0,.nils,.nils,.nils,2,100,tt,S [],0,.nils,.nils,.nils]),.row 3 1 3 (tbl 1 [0,0,0]),.row 308 25 1 (tbl 25 [1,0,1,0,0,0,0,0,2,200,0,ff,v22,10,tt,25,tt,30,20,3,0,0,0,ff,ff]),.row 385 6 3 (tbl 6 [0,1,0,1,I (-1),65,10,5,0,1,0,I (-1),20,12,0,1,I (-1),I (-1)]),.box [L 1 3 [100,100,100],v0,v2,.nils,.nils,tt,20,3,L 1 3 [100,100,100],v0,.nils,v44,.own 59,.own 60,.own 61,v149,.own 62,.nils]]⟩
theorem kw9:W (CA []).E 0 false (loopC (seqR 1 (seqL (seqR 1 (seqR 1 (seqR 1 (seqR 1 (seqR 1 (seqR 1 cR))))))))) s9 fun e s=>e = .normal /\ Weak 0 s s10:=autoW_ok (CA []) 100000 58 [6,7,10,37,38] (K1 [k523,k560]) (K1_ok _) (by kernel_rfl)
def s11:St:=⟨[J,J,J,J,J,J,.ptr 58 0,0,J,J,.ptr 63 0,J,J,J,J,J,J,J,J,J,J,J,J,J,J,J,J,J,J,J,J,J,J,J,J,J,J,5000,4,J,J,J,J,J,J,J,J,J,J,J,J,J,J,J,J,J,J,J],[V,V,V,V,V,V,V,V,V,V,V,V,V,V,V,V,V,V,V,V,V,V,V,V,V,V,V,V,V,V,V,V,V,V,V,V,V,V,V,V,V,V,V,V,V,V,V,V,V,V,V,V,V,V,V,V,V,V,.box [.nils,.nils,.nils,.nils,.nils,ff,0,0,.nils,.nils,.nils,.nils,.nils,.nils,.nils,.nils,.nils],.row 79 8 3 (tbl 8 [0,100,tt,v161,43,.nils,.nils,.nils,1,100,tt,v175,43,v64,.nils,.nils,2,100,tt,S [],0,.nils,.nils,.nils]),.row 3 1 3 (tbl 1 [0,0,0]),.row 308 25 1 (tbl 25 [1,0,1,0,0,0,0,0,2,200,0,ff,v22,10,tt,25,tt,30,20,3,0,0,0,.kb true,.kb true]),.row 385 6 4 (tbl 6 [0,1,0,1,I (-1),65,10,5,0,1,0,I (-1),20,12,0,1,I (-1),I (-1),25,6,1,1,0,I (-1)]),.box [L 1 3 [100,100,100],v0,v2,.nils,.nils,tt,25,4,L 1 3 [100,100,100],v0,.nils,v44,.own 59,.own 60,.own 61,v178,.own 62,.nils]]⟩
theorem kw10:W (CA []).E 0 false (loopC (seqR 1 (seqL (seqR 1 (seqR 1 (seqR 1 (seqR 1 (seqR 1 (seqR 1 cR))))))))) s10 fun e s=>e = .normal /\ Weak 0 s s11:=autoW_ok (CA []) 100000 58 [6,7,10,37,38] (K1 [k561,k587,k267,k596,k643]) (K1_ok _) (by kernel_rfl)
def s12:St:=⟨[J,J,J,J,J,J,.ptr 58 0,0,J,J,.ptr 63 0,J,J,J,J,J,J,J,J,J,J,J,J,J,J,J,J,J,J,J,J,J,J,J,J,J,J,5000,5,J,J,J,J,J,J,J,J,J,J,J,J,J,J,J,J,J,J,J],[V,V,V,V,V,V,V,V,V,V,V,V,V,V,V,V,V,V,V,V,V,V,V,V,V,V,V,V,V,V,V,V,V,V,V,V,V,V,V,V,V,V,V,V,V,V,V,V,V,V,V,V,V,V,V,V,V,V,.box [.nils,.nils,.nils,.nils,.nils,ff,0,0,.nils,.nils,.nils,.nils,.nils,.nils,.nils,.nils,.nils],.row 79 8 3 (tbl 8 [0,100,tt,v161,55,.nils,.nils,.nils,1,100,tt,v175,43,v64,.nils,.nils,2,100,tt,S [],0,.nils,.nils,.nils]),.row 3 1 3 (tbl 1 [0,0,0]),.row 308 25 1 (tbl 25 [1,0,1,0,0,0,0,0,2,200,0,ff,v22,10,tt,25,tt,30,20,3,0,0,0,.kb true,.kb true]),.row 385 6 4 (tbl 6 [0,1,0,1,I (-1),65,10,5,0,1,0,I (-1),20,12,0,1,I (-1),I (-1),25,6,1,1,0,I (-1)]),.box [L 1 3 [100,100,100],v0,v2,.nils,.nils,tt,30,5,L 1 3 [100,100,100],v0,.nils,v44,.own 59,.own 60,.own 61,v195,.own 62,.nils]]⟩
theorem kw11:W (CA []).E 0 false (loopC (seqR 1 (seqL (seqR 1 (seqR 1 (seqR 1 (seqR 1 (seqR 1 (seqR 1 cR))))))))) s11 fun e s=>e = .normal /\ Weak 0 s s12:=autoW_ok (CA []) 100000 58 [6,7,10,37,38] (K1 [k644,k671]) (K1_ok _) (by kernel_rfl)
def s13:St:=⟨[J,J,J,J,J,J,.ptr 58 0,0,J,J,.ptr 63 0,J,J,J,J,J,J,J,J,J,J,J,J,J,J,J,J,J,J,J,J,J,J,J,J,J,J,5000,6,J,J,J,J,J,J,J,J,J,J,J,J,J,J,J,J,J,J,J],[V,V,V,V,V,V,V,V,V,V,V,V,V,V,V,V,V,V,V,V,V,V,V,V,V,V,V,V,V,V,V,V,V,V,V,V,V,V,V,V,V,V,V,V,V,V,V,V,V,V,V,V,V,V,V,V,V,V,.box [.nils,.nils,.nils,.nils,.nils,ff,0,0,.nils,.nils,.nils,.nils,.nils,.nils,.nils,.nils,.nils],.row 79 8 3 (tbl 8 [0,100,tt,v161,55,.nils,.nils,.nils,1,100,tt,v175,43,v64,.nils,v204,2,100,tt,S [],0,.nils,.nils,.nils]),.row 3 1 3 (tbl 1 [0,0,0]),.row 308 25 2 (tbl 25 [1,0,1,0,0,0,0,0,2,200,0,ff,v22,10,tt,25,tt,30,20,3,0,0,0,.kb true,.kb true,1,1,1,0,0,0,0,0,2,200,0,ff,v22,50,tt,65,tt,70,60,3,0,0,0,ff,ff]),.row 385 6 5 (tbl 6 [0,1,0,1,I (-1),65,10,5,0,1,0,I (-1),20,12,0,1,I (-1),I (-1),25,6,1,1,0,I (-1),50,5,1,1,1,I (-1)]),.box [L 1 3 [100,100,100],v0,v2,.nils,.nils,tt,50,6,L 1 3 [100,100,100],v0,.nils,v44,.own 59,.own 60,.own 61,v245,.own 62,.nils]]⟩
theorem kw12:W (CA []).E 0 false (loopC (seqR 1 (seqL (seqR 1 (seqR 1 (seqR 1 (seqR 1 (seqR 1 (seqR 1 cR))))))))) s12 fun e s=>e = .normal /\ Weak 0 s s13:=autoW_ok (CA []) 100000 58 [6,7,10,37,38] (K1 [k672,k180,k673,k695,k697,k758,k767,k776,k786]) (K1_ok _) (by kernel_rfl)
def s14:St:=⟨[J,J,J,J,J,J,.ptr 58 0,0,J,J,.ptr 63 0,J,J,J,J,J,J,J,J,J,J,J,J,J,J,J,J,J,J,J,J,J,J,J,J,J,J,5000,7,J,J,J,J,J,J,J,J,J,J,J,J,J,J,J,J,J,J,J],[V,V,V,V,V,V,V,V,V,V,V,V,V,V,V,V,V,V,V,V,V,V,V,V,V,V,V,V,V,V,V,V,V,V,V,V,V,V,V,V,V,V,V,V,V,V,V,V,V,V,V,V,V,V,V,V,V,V,.box [.nils,.nils,.nils,.nils,.nils,ff,0,0,.nils,.nils,.nils,.nils,.nils,.nils,.nils,.nils,.nils],.row 79 8 3 (tbl 8 [0,100,tt,v161,55,.nils,.nils,.nils,1,100,tt,v255,43,.nils,.nils,.nils,2,100,tt,S [],0,.nils,.nils,.nils]),.row 3 1 3 (tbl 1 [0,0,0]),.row 308 25 2 (tbl 25 [1,0,1,0,0,0,0,0,2,200,0,ff,v22,10,tt,25,tt,30,20,3,0,0,0,.kb true,.kb true,1,1,1,0,0,0,0,0,2,200,0,ff,v22,50,tt,65,tt,70,60,3,0,0,0,ff,ff]),.row 385 6 6 (tbl 6 [0,1,0,1,I (-1),65,10,5,0,1,0,I (-1),20,12,0,1,I (-1),I (-1),25,6,1,1,0,I (-1),50,5,1,1,1,I (-1),60,12,1,1,I (-1),I (-1)]),.box [L 1 3 [100,100,100],v0,v2,.nils,.nils,tt,60,7,L 1 3 [100,100,100],v0,.nils,v44,.own 59,.own 60,.own 61,v244,.own 62,.nils]]⟩
theorem kw13:W (CA []).E 0 false (loopC (seqR 1 (seqL (seqR 1 (seqR 1 (seqR 1 (seqR 1 (seqR 1 (seqR 1 cR))))))))) s13 fun e s=>e = .normal /\ Weak 0 s s14:=autoW_ok (CA []) 100000 58 [6,7,10,37,38] (K1 [k787,k814]) (K1_ok _) (by kernel_rfl)
def s15:St:=⟨[J,J,J,J,J,J,.ptr 58 0,0,J,J,.ptr 63 0,J,J,J,J,J,J,J,J,J,J,J,J,J,J,J,J,J,J,J,J,J,J,J,J,J,J,5000,8,J,J,J,J,J,J,J,J,J,J,J,J,J,J,J,J,J,J,J],[V,V,V,V,V,V,V,V,V,V,V,V,V,V,V,V,V,V,V,V,V,V,V,V,V,V,V,V,V,V,V,V,V,V,V,V,V,V,V,V,V,V,V,V,V,V,V,V,V,V,V,V,V,V,V,V,V,V,.box [.nils,.nils,.nils,.nils,.nils,ff,0,0,.nils,.nils,.nils,.nils,.nils,.nils,.nils,.nils,.nils],.row 79 8 3 (tbl 8 [0,100,tt,v161,55,.nils,.nils,.nils,1,100,tt,v255,43,.nils,.nils,.nils,2,100,tt,v267,44,.nils,v64,.nils]),.row 3 1 3 (tbl 1 [0,0,0]),.row 308 25 2 (tbl 25 [1,0,1,0,0,0,0,0,2,200,0,ff,v22,10,tt,25,tt,30,20,3,0,0,0,.kb true,.kb true,1,1,1,0,0,0,0,0,2,200,0,ff,v22,50,tt,65,tt,70,60,3,0,0,0,.kb true,.kb true]),.row 385 6 7 (tbl 6 [0,1,0,1,I (-1),65,10,5,0,1,0,I (-1),20,12,0,1,I (-1),I (-1),25,6,1,1,0,I (-1),50,5,1,1,1,I (-1),60,12,1,1,I (-1),I (-1),65,7,2,1,1,I (-1)]),.box [L 1 3 [100,100,100],v0,v2,.nils,.nils,tt,65,8,L 1 3 [100,100,100],v0,.nils,v44,.own 59,.own 60,.own 61,v272,.own 62,.nils]]⟩
theorem kw14:W (CA []).E 0 false (loopC (seqR 1 (seqL (seqR 1 (seqR 1 (seqR 1 (seqR 1 (seqR 1 (seqR 1 cR))))))))) s14 fun e s=>e = .normal /\ Weak 0 s s15:=autoW_ok (CA []) 100000 58 [6,7,10,37,38] (K1 [k815,k846,k847]) (K1_ok _) (by kernel_rfl)
def s16:St:=⟨[J,J,J,J,J,J,.ptr 58 0,0,J,J,.ptr 63 0,J,J,J,J,J,J,J,J,J,J,J,J,J,J,J,J,J,J,J,J,J,J,J,J,J,J,5000,9,J,J,J,J,J,J,J,J,J,J,J,J,J,J,J,J,J,J,J],[V,V,V,V,V,V,V,V,V,V,V,V,V,V,V,V,V,V,V,V,V,V,V,V,V,V,V,V,V,V,V,V,V,V,V,V,V,V,V,V,V,V,V,V,V,V,V,V,V,V,V,V,V,V,V,V,V,V,.box [.nils,.nils,.nils,.nils,.nils,ff,0,0,.nils,.nils,.nils,.nils,.nils,.nils,.nils,.nils,.nils],.row 79 8 3 (tbl 8 [0,100,tt,v161,55,.nils,.nils,.nils,1,100,tt,v255,55,.nils,.nils,.nils,2,100,tt,v267,44,.nils,v64,.nils]),.row 3 1 3 (tbl 1 [0,0,0]),.row 308 25 2 (tbl 25 [1,0,1,0,0,0,0,0,2,200,0,ff,v22,10,tt,25,tt,30,20,3,0,0,0,.kb true,.kb true,1,1,1,0,0,0,0,0,2,200,0,ff,v22,50,tt,65,tt,70,60,3,0,0,0,.kb true,.kb true]),.row 385 6 7 (tbl 6 [0,1,0,1,I (-1),65,10,5,0,1,0,I (-1),20,12,0,1,I (-1),I (-1),25,6,1,1,0,I (-1),50,5,1,1,1,I (-1),60,12,1,1,I (-1),I (-1),65,7,2,1,1,I (-1)]),.box [L 1 3 [100,100,100],v0,v2,.nils,.nils,tt,70,9,L 1 3 [100,100,100],v0,.nils,v44,.own 59,.own 60,.own 61,v198,.own 62,.nils]]⟩
theorem kw15:W (CA []).E 0 false (loopC (seqR 1 (seqL (seqR 1 (seqR 1 (seqR 1 (seqR 1 (seqR 1 (seqR 1 cR))))))))) s15 fun e s=>e = .normal /\ Weak 0 s s16:=autoW_ok (CA []) 100000 58 [6,7,10,37,38] (K1 [k848,k868]) (K1_ok _) (by kernel_rfl)
def s17:St:=⟨[J,J,J,J,J,J,.ptr 58 0,0,J,J,.ptr 63 0,J,J,J,J,J,J,J,J,J,J,J,J,J,J,J,J,J,J,J,J,J,J,J,J,J,J,5000,10,J,J,J,J,J,J,J,J,J,J,J,J,J,J,J,J,J,J,J],[V,V,V,V,V,V,V,V,V,V,V,V,V,V,V,V,V,V,V,V,V,V,V,V,V,V,V,V,V,V,V,V,V,V,V,V,V,V,V,V,V,V,V,V,V,V,V,V,V,V,V,V,V,V,V,V,V,V,.box [.nils,.nils,.nils,.nils,.nils,ff,0,0,.nils,.nils,.nils,.nils,.nils,.nils,.nils,.nils,.nils],.row 79 8 3 (tbl 8 [0,100,tt,v161,55,.nils,.nils,.nils,1,100,tt,v255,55,.nils,.nils,.nils,2,100,tt,v267,44,.nils,v64,.nils]),.row 3 1 3 (tbl 1 [0,0,0]),.row 308 25 2 (tbl 25 [1,0,1,0,0,0,0,0,2,200,0,ff,v22,10,tt,25,tt,30,20,3,0,0,0,.kb true,.kb true,1,1,1,0,0,0,0,0,2,200,0,ff,v22,50,tt,65,tt,70,60,3,0,0,0,.kb true,.kb true]),.row 385 6 7 (tbl 6 [0,1,0,1,I (-1),65,10,5,0,1,0,I (-1),20,12,0,1,I (-1),I (-1),25,6,1,1,0,I (-1),50,5,1,1,1,I (-1),60,12,1,1,I (-1),I (-1),65,7,2,1,1,I (-1)]),.box [L 1 3 [100,100,100],v0,v2,.nils,.nils,tt,200,10,L 1 3 [100,100,100],v0,.nils,v44,.own 59,.own 60,.own 61,L 3 1 [200,5,1],.own 62,.nils]]⟩
theorem kw16:W (CA []).E 0 false (loopC (seqR 1 (seqL (seqR 1 (seqR 1 (seqR 1 (seqR 1 (seqR 1 (seqR 1 cR))))))))) s16 fun e s=>e = .normal /\ Weak 0 s s17:=autoW_ok (CA []) 100000 58 [6,7,10,37,38] (K1 [k869,k879]) (K1_ok _) (by kernel_rfl)
def s18:St:=⟨[J,J,J,J,J,J,.ptr 58 0,0,J,J,.ptr 63 0,J,J,J,J,J,J,J,J,J,J,J,J,J,J,J,J,J,J,J,J,J,J,J,J,J,J,5000,11,J,J,J,J,J,J,J,J,J,J,J,J,J,J,J,J,J,J,J],[V,V,V,V,V,V,V,V,V,V,V,V,V,V,V,V,V,V,V,V,V,V,V,V,V,V,V,V,V,V,V,V,V,V,V,V,V,V,V,V,V,V,V,V,V,V,V,V,V,V,V,V,V,V,V,V,V,V,.box [.nils,.nils,.nils,.nils,.nils,ff,0,0,.nils,.nils,.nils,.nils,.nils,.nils,.nils,.nils,.nils],.row 79 8 3 (tbl 8 [0,100,tt,v161,55,.nils,.nils,.nils,1,100,tt,v255,55,.nils,.nils,.nils,2,100,tt,v267,44,.nils,v64,.nils]),.row 3 1 3 (tbl 1 [0,0,0]),.row 308 25 2 (tbl 25 [1,0,1,0,0,0,0,0,2,200,0,ff,v22,10,tt,25,tt,30,20,3,0,0,0,.kb true,.kb true,1,1,1,0,0,0,0,0,2,200,0,ff,v22,50,tt,65,tt,70,60,3,0,0,0,.kb true,.kb true]),.row 385 6 7 (tbl 6 [0,1,0,1,I (-1),65,10,5,0,1,0,I (-1),20,12,0,1,I (-1),I (-1),25,6,1,1,0,I (-1),50,5,1,1,1,I (-1),60,12,1,1,I (-1),I (-1),65,7,2,1,1,I (-1)]),.box [L 1 3 [100,100,100],v0,v2,.nils,.nils,tt,200,11,L 1 3 [100,100,100],v0,.nils,v44,.own 59,.own 60,.own 61,L 3 0 [],.own 62,.nils]]⟩
theorem kw17:W (CA []).E 0 false (loopC (seqR 1 (seqL (seqR 1 (seqR 1 (seqR 1 (seqR 1 (seqR 1 (seqR 1 cR))))))))) s17 fun e s=>e = .normal /\ Weak 0 s s18:=autoW_ok (CA []) 100000 58 [6,7,10,37,38] (K1 [k880,k884]) (K1_ok _) (by kernel_rfl)
def s19:St:=⟨[J,J,J,J,J,J,.ptr 58 0,0,J,J,.ptr 63 0,J,J,J,J,J,J,J,J,J,J,J,J,J,J,J,J,J,J,J,J,J,J,J,J,J,J,5000,11,J,J,J,J,J,J,J,J,J,J,J,J,J,J,J,J,J,J,J],[V,V,V,V,V,V,V,V,V,V,V,V,V,V,V,V,V,V,V,V,V,V,V,V,V,V,V,V,V,V,V,V,V,V,V,V,V,V,V,V,V,V,V,V,V,V,V,V,V,V,V,V,V,V,V,V,V,V,.box [.nils,.nils,.nils,.nils,.nils,ff,0,0,.nils,.nils,.nils,.nils,.nils,.nils,.nils,.nils,.nils],.row 79 8 3 (tbl 8 [0,100,tt,v161,55,.nils,.nils,.nils,1,100,tt,v255,55,.nils,.nils,.nils,2,100,tt,v267,44,.nils,v64,.nils]),.row 3 1 3 (tbl 1 [0,0,0]),.row 308 25 2 (tbl 25 [1,0,1,0,0,0,0,0,2,200,0,ff,v22,10,tt,25,tt,30,20,3,0,0,0,.kb true,.kb true,1,1,1,0,0,0,0,0,2,200,0,ff,v22,50,tt,65,tt,70,60,3,0,0,0,.kb true,.kb true]),.row 385 6 7 (tbl 6 [0,1,0,1,I (-1),65,10,5,0,1,0,I (-1),20,12,0,1,I (-1),I (-1),25,6,1,1,0,I (-1),50,5,1,1,1,I (-1),60,12,1,1,I (-1),I (-1),65,7,2,1,1,I (-1)]),.box [L 1 3 [100,100,100],v0,v2,.nils,.nils,tt,200,11,L 1 3 [100,100,100],v0,.nils,v44,.own 59,.own 60,.own 61,L 3 0 [],.own 62,.nils]]⟩
theorem kw18:W (CA []).E 0 false (loopC (seqR 1 (seqL (seqR 1 (seqR 1 (seqR 1 (seqR 1 (seqR 1 (seqR 1 cR))))))))) s18 fun e s=>e = (.exit 0) /\ Weak 0 s s19:=autoW_ok (CA []) 100000 58 [6,7,10,37,38] (K1 [k885]) (K1_ok _) (by kernel_rfl)
theorem kwE:W (CA []).E 0 false (seqR 1 (seqR 1 (seqR 1 (seqR 1 (seqR 1 (seqR 1 (seqR 1 cR))))))) s19 fun e s=>endC Tryz.prog (resC Tryz.prog 18) c886.res c886.ob c886.fr e s = true:=autoE_ok (CA []) 100000 58 (K1 []) (K1_ok _) (by kernel_rfl)
theorem kp886:CtOK Tryz.prog c886:=partsC_ok (E:=(CA []).E) rfl (by kernel_rfl) (code:=(.seq (seqL cR) (.seq (seqL (seqR 1 cR)) (.seq (seqL (seqR 1 (seqR 1 cR))) (.seq (seqL (seqR 1 (seqR 1 (seqR 1 cR)))) (.seq (seqL (seqR 1 (seqR 1 (seqR 1 (seqR 1 cR))))) (.seq (seqL (seqR 1 (seqR 1 (seqR 1 (seqR 1 (seqR 1 cR)))))) (.seq (.seq (seqL (seqL (seqR 1 (seqR 1 (seqR 1 (seqR 1 (seqR 1 (seqR 1 cR)))))))) (.block 0 (.loop (loopC (seqR 1 (seqL (seqR 1 (seqR 1 (seqR 1 (seqR 1 (seqR 1 (seqR 1 cR)))))))))))) (seqR 1 (seqR 1 (seqR 1 (seqR 1 (seqR 1 (seqR 1 (seqR 1 cR))))))))))))))) (by kernel_rfl) (W.thn kw0 (W.thn kw1 (W.thn kw2 (W.thn kw3 (W.thn kw4 (W.thn kw5 (W.thn (W.sq2 kw6 (W.blkN (WR.step kw7 (WR.step kw8 (WR.step kw9 (WR.step kw10 (WR.step kw11 (WR.step kw12 (WR.step kw13 (WR.step kw14 (WR.step kw15 (WR.step kw16 (WR.step kw17 (WR.last kw18 fun s h=>⟨rfl,h⟩)))))))))))))) kwE)))))))
def k886:KK:=⟨c886,kp886⟩
end Go.Proofs.YtjhmdfofhnijeaaGreatDoor
