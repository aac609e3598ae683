import Derived.Test.YtjhmdfofhnijeaaGreatDoorW1
import GoSem.ClaimFn
set_option linter.unusedSimpArgs false
set_option linter.unusedSectionVars false
set_option linter.unusedVariables false
namespace Go.Proofs.YtjhmdfofhnijeaaGreatDoor
open Go
set_option maxRecDepth 100000
noncomputable def leadP (g:Nat):List Nat:=(Tryz.prog.funcs[g]?).elim [] Tryz.prog.leadsTo
def ledT0:List (List Nat):=[[],[],[1],[5,6,7,8,9,6],[11,10,6,12,6,7,13,14,13,15,6,6],[16,17],[19,18],[20],[21,22,23,24,25,26],[21,27,28,28,29,26,30,31,30],[32],[5],[14,15],[8,9],[20,33,34,35,36,37],[38,39,40,42,41,43,44,45,46,47,48],[49],[50,51],[52,53,54],[55],[56,57],[58,38],[30,31],[59],[],[],[],[60],[27,62,61],[28,28],[],[63,64,61],[],[65,66,67,68,69],[70,71,72,73],[74,75,77,76,78,79,80],[81],[70,71,74,82],[83,84,48],[63,85,61]]
def ledT1:List (List Nat):=[[86,87],[88],[89,90],[93],[95,94],[92,92,91],[95,96],[92,92,92,92,92,91],[83,97,98,100,99],[101],[102,103,104],[],[105,106,107,108,108,108],[],[109,110,111,112,113,114,115,116,117],[],[70,71],[65,66,67,118],[],[119],[],[120],[],[],[],[122,121],[123,123],[124,79,80],[125],[],[126],[82],[65,123,69],[127,128],[65,66,118],[],[],[],[],[129,68]]
def ledT2:List (List Nat):=[[],[],[130],[133,135,134],[83,137,138],[],[],[139],[],[95,140],[92,92,91],[],[141,141],[],[142,143,144,145,146,147,148,149,94,94],[150,151],[152,153,154,155,156,157,158,159,96,96],[],[92,92,92,92,92,91],[],[160,139],[],[161,162],[102,163],[102,164,165,166],[83,167],[83],[168,168],[169],[170,171,108,108],[171,173,172,171,171,108,174,108],[173,175],[173,175],[173,171],[176,177,174,178],[179,180,181,171],[182,183,171,184,171,108,171,108,108],[185,171],[],[30]]
def ledT3:List (List Nat):=[[],[186],[123,123],[],[187,76,78,78],[],[38],[27,27,188],[],[189,68],[131,132],[],[190],[192,192,192,192,192],[193],[136],[133,133],[],[92,92,91],[95,194],[195,196,197,198,199,200,201,202,140,140],[],[],[203,203],[204,205],[206,206,206,207],[],[],[],[],[],[],[],[208,208],[204,205],[209,209,209,210],[],[],[],[]]
def ledT4:List (List Nat):=[[],[],[161,161],[],[],[],[211],[212,213,215,214],[],[216,217,218,220,219],[221,222,223,224,225],[],[],[226],[228,227,229,230],[171,108],[232,231],[234],[230,235,108,236,173,171,171,237,108,173,175],[212,238,240,239],[241,242,75,243,220,244],[245,236,246,173,172,247,171,108],[],[248,173,249,250],[251,253,252],[221],[],[],[254],[],[191],[257,258],[],[],[259,260,261,262,263,264,265,266,267,194,194],[],[268,268],[204,205],[269,269,269,270],[]]
def ledT5:List (List Nat):=[[],[],[],[],[95],[],[207],[271,271,271],[],[210],[272,272,272],[],[273,274,275,276,277,278],[212],[279],[],[217,280],[],[280],[281,282],[],[168,168,168,283],[284,285],[286,287],[288,289],[290],[221,291],[292],[],[294,293],[297],[298],[92,92,233,91],[299,299],[301,300],[297,302,303,305,304],[306,230,248,173,171,307,247,171,307],[],[],[309,308,310]]
def ledT6:List (List Nat):=[[],[],[],[],[],[311,312],[313,312],[182],[314,300],[315],[],[316],[317],[318],[255,255,256,256],[],[255],[84],[319,63],[265],[320,320],[204,205],[321,321,321,322],[],[265,265,265],[141,141],[265,265],[265,265,265,265],[],[270],[323,323,323],[],[],[275,275,275,275,275],[],[],[275],[324],[275],[]]
def ledT7:List (List Nat):=[[92,92,92,91],[],[325],[326,327,328,328,329,330,331,227],[326,327],[],[332,334,334,335,335],[],[336,337,336,338,339],[286,340,341],[176],[342,343,344,345,346,347,348,349],[],[350],[296,295],[351],[],[352,182,353],[354,354,355,355],[356],[],[],[353,357,358],[241],[359,350],[357,360],[361,352,362,363,364,365,366,367,303,368,304,364,369],[182,108],[370],[],[372,371,373],[313],[212],[212,374,375,376,377,374,378],[],[],[],[27,379,380,381,382],[61,383,385,384,386],[]]
def ledT8:List (List Nat):=[[265,265],[322],[387,387,387],[],[],[388,388,388],[389],[390,391,341],[],[392,286,285],[393,395,395,394],[177],[333],[340],[300],[234],[396],[340,397,374,397,397,397,378],[],[],[398,398,399,400,398],[401,403,406,407],[168,340,168,168,340,168,168],[409,410,227,411,412],[177,413,412],[414,415],[416,415],[223,177,417],[177,417],[177,411],[],[],[83,418,419,420,84,364,38],[357],[],[421,355,355],[422],[],[],[]]
def ledT9:List (List Nat):=[[],[],[83],[],[423,424,425,426],[427,428,429,430,433],[364,434,436,435,365,438,438,303,439],[440,441,442],[],[],[],[443],[],[],[376],[],[444,446,445],[376,447],[374,448],[133,449,451,450],[452],[],[453,454,453],[60],[455,456],[457],[92],[265],[],[458,459,340],[460],[340],[],[461],[299,299,92],[],[462],[376,336,339],[],[400,398,398,398,398,398]]
def ledT10:List (List Nat):=[[398,398,398,398,398],[402],[234,408],[405,404],[463],[464],[402],[234,408],[],[286,333,392,287,465,234,234,285],[],[288,289],[],[330,467,466,393,468,227,469,466],[330,470,466,471,472,466],[177,473,412,417],[330,474,466],[411,471,476,475,412],[477],[],[362,478],[479,479,479],[92],[],[480,481],[482,358],[480,483,484,485],[38,362,191,486,487],[488,489,491,490,431,493,492,494,489],[431],[431,432],[495],[],[],[302],[477],[437],[499],[],[500,434,182,501,368,304,502,503]]
def ledT11:List (List Nat):=[[38,362],[427,428,429],[427,428],[],[],[504],[],[324,376,376,374,378],[505],[],[507,506,508,508,509],[511,510],[],[512,513,514,514,515],[516,517,518,519],[520],[95,521],[],[522,448],[523,523,523,523,523,524],[],[],[],[],[],[],[],[],[395,395],[395,395,394],[395],[],[],[],[],[292],[],[],[362,525,526],[]]
def ledT12:List (List Nat):=[[527],[92,92,91],[],[92,92,91],[528],[92,92,92,92,92,91],[529,530],[48,531,532,100],[],[92,92,92,91],[533],[432],[533],[432],[95,534],[496,497,498],[],[],[],[],[],[357,535,295],[182,353,305,304,503,537,538,304,305,304],[364,369,539,435],[],[540],[541],[542],[],[],[544,544,545,546],[548,547],[],[],[549],[513],[550],[551,552,550,553,551],[551,554,551],[515,555]]
def ledT13:List (List Nat):=[[],[556,557,558,559,560,561,562,563,521,521],[564],[522],[565,566,567],[568],[569,570],[142,142,571,571],[152,152,572,572],[133,192],[573,574],[],[],[],[575,576,577,578,579,580,581,582,534,534],[536,295],[],[365],[357,583],[437],[584,585],[],[543],[586,544],[],[27],[587],[127,588],[],[452],[513,590,589],[514,591],[592,586,593,594,596,595],[592],[597,586,449,598],[597,449,451,450],[],[599,599],[204,205],[600,600,600,601]]
def ledT14:List (List Nat):=[[],[],[],[],[567,566,567,567,444,567],[564,567],[],[],[],[529,602],[486],[603,571,571],[604,572,572],[605,574],[],[],[606,606],[204,205],[607,607,607,608],[],[],[],[],[609],[610],[611],[544,612,544,544],[],[],[549,614,613,615,617,616,618,437],[28,619],[549,615],[27,620],[622,623,624,625],[73],[586],[],[626,627,509,627],[628,629],[]]
def ledT15:List (List Nat):=[[601],[630,630,630],[530],[631,631,631],[632,632,632],[633],[],[608],[634,634,634],[],[],[],[635,636,637,638,639,640],[641],[],[],[],[],[642,643],[452,644,644,645],[621],[647,646,648,650,649,652,651],[],[],[],[594],[133,449,449,449,449,27],[548,653],[73,627,451,450],[508],[],[],[],[],[],[544,544],[544],[544],[545],[]]
def ledT16:List (List Nat):=[[],[],[],[654],[],[655,656,657,658],[],[],[],[659],[659],[660,661],[662,661],[],[663,663,663],[],[],[],[],[],[664],[665],[666,660],[],[],[667,668,667,669,670],[],[671],[],[],[],[672],[],[],[],[],[],[],[],[]]
def ledT17:List (List Nat):=[[],[],[],[],[],[],[],[],[],[],[],[],[],[],[]]
def ledTab (g:Nat):List Nat:=match g / 40 with
 | 0=>ledT0.getD (g % 40) []
 | 1=>ledT1.getD (g % 40) []
 | 2=>ledT2.getD (g % 40) []
 | 3=>ledT3.getD (g % 40) []
 | 4=>ledT4.getD (g % 40) []
 | 5=>ledT5.getD (g % 40) []
 | 6=>ledT6.getD (g % 40) []
 | 7=>ledT7.getD (g % 40) []
 | 8=>ledT8.getD (g % 40) []
 | 9=>ledT9.getD (g % 40) []
 | 10=>ledT10.getD (g % 40) []
 | 11=>ledT11.getD (g % 40) []
 | 12=>ledT12.getD (g % 40) []
 | 13=>ledT13.getD (g % 40) []
 | 14=>ledT14.getD (g % 40) []
 | 15=>ledT15.getD (g % 40) []
 | 16=>ledT16.getD (g % 40) []
 | 17=>ledT17.getD (g % 40) []
 | _=>[]
theorem led0:(List.range 40).map (fun i=>leadP (0 + i)) = ledT0:=by kernel_rfl
theorem led1:(List.range 40).map (fun i=>leadP (40 + i)) = ledT1:=by kernel_rfl
theorem led2:(List.range 40).map (fun i=>leadP (80 + i)) = ledT2:=by kernel_rfl
theorem led3:(List.range 40).map (fun i=>leadP (120 + i)) = ledT3:=by kernel_rfl
theorem led4:(List.range 40).map (fun i=>leadP (160 + i)) = ledT4:=by kernel_rfl
theorem led5:(List.range 40).map (fun i=>leadP (200 + i)) = ledT5:=by kernel_rfl
theorem led6:(List.range 40).map (fun i=>leadP (240 + i)) = ledT6:=by kernel_rfl
theorem led7:(List.range 40).map (fun i=>leadP (280 + i)) = ledT7:=by kernel_rfl
theorem led8:(List.range 40).map (fun i=>leadP (320 + i)) = ledT8:=by kernel_rfl
theorem led9:(List.range 40).map (fun i=>leadP (360 + i)) = ledT9:=by kernel_rfl
theorem led10:(List.range 40).map (fun i=>leadP (400 + i)) = ledT10:=by kernel_rfl
theorem led11:(List.range 40).map (fun i=>leadP (440 + i)) = ledT11:=by kernel_rfl
theorem led12:(List.range 40).map (fun i=>leadP (480 + i)) = ledT12:=by kernel_rfl
theorem led13:(List.range 40).map (fun i=>leadP (520 + i)) = ledT13:=by kernel_rfl
theorem led14:(List.range 40).map (fun i=>leadP (560 + i)) = ledT14:=by kernel_rfl
theorem led15:(List.range 40).map (fun i=>leadP (600 + i)) = ledT15:=by kernel_rfl
theorem led16:(List.range 40).map (fun i=>leadP (640 + i)) = ledT16:=by kernel_rfl
theorem led17:(List.range 15).map (fun i=>leadP (680 + i)) = ledT17:=by kernel_rfl
theorem fnSize:Tryz.prog.funcs.size = 695:=by kernel_rfl
theorem led_at {m a g:Nat} {T:List (List Nat)} (h:(List.range m).map (fun i=>leadP (a + i)) = T) (h1:a <= g) (h2:g < a + m):leadP g = T.getD (g - a) []:=by
 rw [<- h,List.getD_eq_getElem?_getD,List.getElem?_map,List.getElem?_range (by omega)]
 show leadP g = leadP (a + (g - a))
 rw [Nat.add_sub_cancel' h1]
theorem led_all (g:Nat):leadP g = ledTab g:=by
 by_cases h0:g < 40
 ·rw [led_at led0 (show 0 <= g by omega) (by omega)]
  unfold ledTab
  rw [show g / 40 = 0 by omega,show g % 40 = g - 0 by omega]
  rfl
 by_cases h1:g < 80
 ·rw [led_at led1 (show 40 <= g by omega) (by omega)]
  unfold ledTab
  rw [show g / 40 = 1 by omega,show g % 40 = g - 40 by omega]
  rfl
 by_cases h2:g < 120
 ·rw [led_at led2 (show 80 <= g by omega) (by omega)]
  unfold ledTab
  rw [show g / 40 = 2 by omega,show g % 40 = g - 80 by omega]
  rfl
 by_cases h3:g < 160
 ·rw [led_at led3 (show 120 <= g by omega) (by omega)]
  unfold ledTab
  rw [show g / 40 = 3 by omega,show g % 40 = g - 120 by omega]
  rfl
 by_cases h4:g < 200
 ·rw [led_at led4 (show 160 <= g by omega) (by omega)]
  unfold ledTab
  rw [show g / 40 = 4 by omega,show g % 40 = g - 160 by omega]
  rfl
 by_cases h5:g < 240
 ·rw [led_at led5 (show 200 <= g by omega) (by omega)]
  unfold ledTab
  rw [show g / 40 = 5 by omega,show g % 40 = g - 200 by omega]
  rfl
 by_cases h6:g < 280
 ·rw [led_at led6 (show 240 <= g by omega) (by omega)]
  unfold ledTab
  rw [show g / 40 = 6 by omega,show g % 40 = g - 240 by omega]
  rfl
 by_cases h7:g < 320
 ·rw [led_at led7 (show 280 <= g by omega) (by omega)]
  unfold ledTab
  rw [show g / 40 = 7 by omega,show g % 40 = g - 280 by omega]
  rfl
 by_cases h8:g < 360
 ·rw [led_at led8 (show 320 <= g by omega) (by omega)]
  unfold ledTab
  rw [show g / 40 = 8 by omega,show g % 40 = g - 320 by omega]
  rfl
 by_cases h9:g < 400
 ·rw [led_at led9 (show 360 <= g by omega) (by omega)]
  unfold ledTab
  rw [show g / 40 = 9 by omega,show g % 40 = g - 360 by omega]
  rfl
 by_cases h10:g < 440
 ·rw [led_at led10 (show 400 <= g by omega) (by omega)]
  unfold ledTab
  rw [show g / 40 = 10 by omega,show g % 40 = g - 400 by omega]
  rfl
 by_cases h11:g < 480
 ·rw [led_at led11 (show 440 <= g by omega) (by omega)]
  unfold ledTab
  rw [show g / 40 = 11 by omega,show g % 40 = g - 440 by omega]
  rfl
 by_cases h12:g < 520
 ·rw [led_at led12 (show 480 <= g by omega) (by omega)]
  unfold ledTab
  rw [show g / 40 = 12 by omega,show g % 40 = g - 480 by omega]
  rfl
 by_cases h13:g < 560
 ·rw [led_at led13 (show 520 <= g by omega) (by omega)]
  unfold ledTab
  rw [show g / 40 = 13 by omega,show g % 40 = g - 520 by omega]
  rfl
 by_cases h14:g < 600
 ·rw [led_at led14 (show 560 <= g by omega) (by omega)]
  unfold ledTab
  rw [show g / 40 = 14 by omega,show g % 40 = g - 560 by omega]
  rfl
 by_cases h15:g < 640
 ·rw [led_at led15 (show 600 <= g by omega) (by omega)]
  unfold ledTab
  rw [show g / 40 = 15 by omega,show g % 40 = g - 600 by omega]
  rfl
 by_cases h16:g < 680
 ·rw [led_at led16 (show 640 <= g by omega) (by omega)]
  unfold ledTab
  rw [show g / 40 = 16 by omega,show g % 40 = g - 640 by omega]
  rfl
 by_cases h17:g < 695
 ·rw [led_at led17 (show 680 <= g by omega) (by omega)]
  unfold ledTab
  rw [show g / 40 = 17 by omega,show g % 40 = g - 680 by omega]
  rfl
 ·have e1:Tryz.prog.funcs[g]? = none:=Array.getElem?_eq_none (by rw [fnSize];omega)
  unfold leadP
  rw [e1]
  unfold ledTab
  split
  ·omega
  ·omega
  ·omega
  ·omega
  ·omega
  ·omega
  ·omega
  ·omega
  ·omega
  ·omega
  ·omega
  ·omega
  ·omega
  ·omega
  ·omega
  ·omega
  ·omega
  ·show [] = _
   rw [List.getD_eq_getElem?_getD,List.getElem?_eq_none (by show 15 <= g % 40;omega)];rfl
  ·rfl
def clT (T:Nat -> List Nat):Nat -> List Nat -> Nat -> List Nat -> List Nat
 | 0,_,_,acc=>acc.reverse
 | _,[],_,acc=>acc.reverse
 | n + 1,f :: todo,s,acc=>match Nat.testBit s f with
  | true=>clT T n todo s acc
  | false=>clT T n (T f ++ todo) (s ||| 2 ^ f) (f :: acc)
theorem clT_eq {P:Program} {T:Nat -> List Nat} (hT:∀ g,(P.funcs[g]?).elim [] P.leadsTo = T g):∀ (n:Nat) (todo seen:List Nat) (s:Nat),(∀ f,Nat.testBit s f = seen.contains f) -> P.closureVia n todo seen = clT T n todo s seen
 | 0,todo,seen,s,_=>by unfold Program.closureVia clT;rfl
 | n + 1,[],seen,s,_=>by unfold Program.closureVia clT;rfl
 | n + 1,f :: todo,seen,s,h=>by
  unfold Program.closureVia clT
  cases hb:Nat.testBit s f with
  | true=>
   rw [h f] at hb
   rw [if_pos hb]
   exact clT_eq hT n todo seen s h
  | false=>
   rw [h f] at hb
   rw [if_neg (by rw [hb];decide),hT f]
   refine clT_eq hT n _ (f :: seen) _ fun g=>?_
   rw [Nat.testBit_or,h g,Nat.testBit_two_pow,List.contains_cons,Bool.or_comm]
   congr 1
   by_cases e:f = g
   ·subst e;simp
   ·rw [decide_eq_false e]
    exact (beq_false_of_ne (fun q=>e q.symm)).symm
def sumTab:Nat -> Nat
 | 0=>0
 | n + 1=>sumTab n + ((ledTab n).length + 1)
theorem sum_fns (f:Func -> Nat) (hf:∀ g fn,Tryz.prog.funcs[g]? = some fn -> f fn = (ledTab g).length + 1):∀ n,n <= Tryz.prog.funcs.size -> ((Tryz.prog.funcs.toList.take n).map f).sum = sumTab n
 | 0,_=>rfl
 | n + 1,h=>by
  have hn:n < Tryz.prog.funcs.toList.length:=by rw [Array.length_toList];omega
  rw [List.take_add_one,List.map_append,List.sum_append,sum_fns f hf n (by omega),List.getElem?_eq_getElem hn]
  have:=hf n (Tryz.prog.funcs.toList[n]) (by rw [<- Array.getElem?_toList,List.getElem?_eq_getElem hn])
  simp only [Option.toList,List.map_cons,List.map_nil,List.sum_cons,List.sum_nil,this,sumTab]
  omega
theorem fuelIs:1 + (Tryz.prog.funcs.toList.map fun g=>(Tryz.prog.leadsTo g).length + 1).sum = 1918:=by
 have h:=sum_fns (fun g=>(Tryz.prog.leadsTo g).length + 1) (fun g fn hg=>by
  have:=led_all g
  unfold leadP at this
  rw [hg] at this
  rw [<- this];rfl) Tryz.prog.funcs.size (Nat.le_refl _)
 rw [List.take_of_length_le (by rw [Array.length_toList];exact Nat.le_refl _)] at h
 rw [fnSize] at h
 exact (congrArg (1 + ·) h).trans (show 1 + sumTab 695 = 1918 by kernel_rfl)
def clo3:List Nat:=[3,5,16,49,101,17,50,102,161,162,103,163,104,164,165,166,211,51,6,19,55,18,52,105,83,133,192,135,136,134,193,167,212,273,275,274,276,277,324,278,213,215,214,279,106,107,168,108,169,216,217,280,92,141,91,218,220,219,281,282,325,388,53,54,109,170,221,283,326,389,458,522,564,567,566,444,448,505,540,584,610,585,611,459,523,524,565,340,398,399,400,327,390,460,391,341,401,402,234,301,300,408,403,405,464,404,463,406,407,328,329,392,286,332,333,334,335,285,330,393,461,395,394,299,356,422,331,177,227,292,222,284,223,287,224,288,336,396,462,337,397,376,446,445,504,339,374,378,338,289,225,290,176,232,233,231,298,354,355,421,479,171,110,173,226,291,342,343,409,465,410,411,412,344,413,467,466,468,469,345,414,470,471,472,415,473,417,476,475,346,416,474,347,348,349,172,174,228,229,294,296,295,351,293,350,230,297,352,418,477,419,420,362,478,525,568,526,569,529,602,530,573,605,633,574,570,486,84,137,138,364,423,424,480,527,142,571,603,631,481,425,482,358,426,483,484,528,152,572,604,632,485,38,48,97,98,100,160,139,95,150,151,194,259,265,260,320,261,204,205,262,321,322,387,263,264,266,267,99,182,353,357,111,175,112,113,114,178,235,302,303,241,305,360,304,359,236,306,361,363,365,427,191,257,258,319,63,487,531,532,428,488,489,491,432,490,533,431,495,496,497,498,493,492,494,534,575,576,606,577,578,607,608,634,579,580,581,582,429,430,433,366,434,436,437,499,435,438,439,500,501,535,536,368,502,503,369,539,537,538,583,609,367,440,441,442,248,314,307,247,237,115,179,238,240,239,309,308,370,310,372,371,443,373,180,242,75,243,244,181,245,311,313,375,377,447,312,246,116,183,249,315,250,184,251,316,253,318,61,120,383,60,385,457,384,455,520,456,521,556,557,599,558,559,600,601,630,560,561,562,563,386,252,317,27,379,449,451,511,548,547,127,188,254,255,256,588,510,544,545,546,587,450,507,542,543,586,612,635,636,637,638,639,640,506,541,508,509,380,452,381,382,453,512,513,514,549,515,454,516,550,590,28,62,619,644,645,655,656,657,658,589,614,613,641,615,617,616,618,642,643,654,663,517,551,591,552,592,620,621,647,646,648,650,659,649,652,662,666,660,664,661,665,667,671,672,668,669,670,651,593,622,623,624,625,594,73,128,596,595,553,518,554,597,626,627,653,598,628,629,519,555,117,185,7,20,56,70,126,71,82,130,131,132,190,57,65,122,123,121,186,66,67,124,187,76,78,79,129,189,68,125,80,118,8,21,58,22,30,31,64,23,59,119,24,25,26,9,29]
theorem closure3:Tryz.prog.closure 3 = clo3:=by
 unfold Program.closure
 rw [fuelIs]
 exact (clT_eq (P:=Tryz.prog) (T:=ledTab) led_all 1918 [3] [] 0 (fun f=>by simp)).trans (show clT ledTab 1918 [3] 0 [] = clo3 by kernel_rfl)
-- globals [0,1]
end Go.Proofs.YtjhmdfofhnijeaaGreatDoor
