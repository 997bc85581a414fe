/- On the way to GuardsSuffice. Conditions: none of ours. -/
import Derived.Test.YtikknocmfjfohaaGreatDoorProg
import Derived.KernelRfl
import Derived.Test.YtikknocmfjfohaaGreatDoorAmT11
theorem Go.AM.b2gsH{p:Prop}(h:p:=by
 exact⟨i+1,by omega,by omega,⟨[(60,.blk 60 0),(70,.blk 70 0),(71,.blk 71 0),(72,.blk 72 0)],rfl,au0,au1,au2⟩⟩):p:=h
theorem Go.AM.bDUuv{p:Prop}(h:p:=by
 subst w;refine QfY Za3 hrn (fun k d j V L b g N O h1 z=>?_) (fun k d b g h1=>?_) (by decide) (by decide) (by decide)
 ·split at h1
  ·split at z;·split at h1<;>split at z<;>cases h1<;>cases z<;>omega
   cases z
  cases h1
 split at h1;·split at h1<;>cases h1<;>omega
 cases h1):p:=h
theorem Go.AM.bXHQR{p:Prop}(h:p:=by
 rename_i c;rw[Qcd he,if_neg (fun C=>c C.symm),Zas];exact Rn.x1 rfl (by rw[Qcl (Zau.2 n)];simp[l,c])):p:=h
theorem Go.AM.b8ZPD{p:Prop}(h:p:=by
 refine ZcE rfl (b:=300+k) (g:=0) (ds:=SE.rowF (a.es.take i) k) (by rw[Qcl d];simp[q,c]) (by simp(disch:=omega)only[QaA,QaH,Qa0,t k F c]) (RnL.eq ?_ (Qaa _)) ZcD;unfold SE.rowF;rw[Qcd he,if_neg (fun C=>c C.symm),Zas]):p:=h
theorem Go.AM.bKi5k{p:Prop}(h:p:=by
 have hp:=Qel q;have:SE.rowF (a.es.take (i+1)) k=[]:=by unfold SE.rowF;rw[hp];rfl
 rw[this];exact ZcF rfl (by rw[Qcl d];simp[q]) ZcD):p:=h
theorem Go.AM.bAheo{p:Prop}(h:p:=by
 rw[Zag,ZbM];rw[Zah,List.getElem?_set];rw[Zah]at h1;split
 ·split;·simp only[Option.getD_some];omega
  simp only[Option.getD_none];omega
 omega):p:=h
theorem Go.AM.bLdqA{p:Prop}(h:p:=by
 rintro j hj;by_cases hjl:j<(preds a.es v).length
 ·obtain⟨y,hy⟩:=Qak hjl;have hyn:=hpn y (Zaa hy);obtain⟨k1,k2,_,_,_,_⟩:=hrow ((preds a.es v).take j) (fun y hy=>Qd9.1 (ZaX hy));have hbdj:=Qfw (left:=lf l) (v:=v) ((preds a.es v).take j) s hbd;have hstep:=Qlz (left:=lf l) (v:=v) (s:=s) hy;generalize((preds a.es v).take j).foldl (bEd (lf l) v) s=t at*;have hcn:=k1.cnt;have hln:=k1.len;have hil:i<t.2.length:=(Zaf.1 k2).1;have hyl:y<l.length:=by omega
  have hy1:y+1<=t.1.length:=by omega
  have hyt:y<t.1.length:=by omega
  have hvt:v<t.1.length:=by omega
  have hv1:=k1.neg v hvn;have hv2:=hbdj v;by_cases h0:lf l y=true
  ·by_cases h2:t.1.getD y 0<0
   ·have hst:bEd (lf l) v t y=(t.1.set y (t.1.getD v 0+1),t.2++[y]):=by unfold bEd;rw[if_pos (by rw[h0,decide_eq_true h2];rfl)]
    rw[hst]at hstep;refine Zc7 (Zdj hjl (QaI hy) hyn (Qba hyl) h0 (Qbo hyt) h2 hil (QbG (nz_at k2)) hvn (Qbo hvt) hy1 @QbN) ?_;refine⟨j+1,by omega,by omega,?_⟩;rw[hstep,QaM,QaB,Zag];exact⟨[(80,.blk 80 0),(81,.blk 81 1)],rfl,au0,au5,au6⟩
   ·have hst:bEd (lf l) v t y=t:=by unfold bEd;rw[if_neg (by rw[h0,decide_eq_false h2];decide)]
    rw[hst]at hstep;refine Zc7 (Zdd hjl (QaI hy) hyn (Qba hyl) h0 (Qbo hyt) h2) ?_;refine⟨j+1,by omega,by omega,?_⟩;rw[hstep];exact⟨[(80,.blk 80 0),(81,.blk 81 0)],rfl,au0,au5,au6⟩
  ·have hst:bEd (lf l) v t y=t:=by unfold bEd;rw[if_neg (by simp[h0])]
   rw[hst]at hstep;rw[Zam]at h0;refine Zc7 (Zdb hjl (QaI hy) hyn (Qba hyl) h0) ?_;refine⟨j+1,by omega,by omega,?_⟩;rw[hstep];exact⟨[(80,.blk 80 0),(81,.blk 81 0)],rfl,au0,au5,au6⟩
 ·have e:j=(preds a.es v).length:=by omega
  subst e;refine Zc7 hjl ?_;refine⟨(),?_⟩;exact⟨[(80,.blk 80 0),(81,.blk 81 0)],rfl,au0,au5,au6⟩):p:=h
theorem Go.AM.b3y7C{p:Prop}(h:p:=by
 rintro _ _;refine Zc6 ?_;exact⟨(i+1,bRow a.es (lf l) v s),by dsimp only;omega,⟨hin',hbh',Qfw _ _ hbd,hq'⟩,⟨[(80,.blk 80 0),(81,.blk 81 0)],rfl,au0,au5,au6⟩⟩):p:=h
theorem Go.AM.bFgLS{p:Prop}(h:p:=by
 refine⟨i+1,by omega,by omega,?_⟩;rw[b];exact⟨[(80,.blk 80 0),(81,.blk 81 0)],rfl,au0,au7,au8⟩):p:=h
theorem Go.AM.bqAz1{p:Prop}(h:p:=by
 have a:b<1099511627775:=by simp_all
 refine HSpec.frame (fun k=>k=b) n p l (fun k=>?_) (fun k c=>?_) (fun k=>?_) (fun k x c=>?_) (fun k x c=>?_);·rw[Qcm a];simp_all
 ·simp_all[Qcm]
 ·rw[Qcm a];by_cases e:k=b;·subst e;rw[if_pos rfl,if_pos rfl,QaA a]
  simp_all[QaH]
 ·rw[Qcm a]at c;split at c;·cases c;exact m
  cases c
 rw[Qcm a]at c;split at c;·cases c;exact o
 cases c):p:=h
set_option linter.unusedSectionVars false
set_option maxHeartbeats 32000000
set_option maxRecDepth 100000
set_option linter.unusedVariables false
set_option linter.unusedSimpArgs false
namespace Go.AM.SU
open Go.Proofs
set_option maxHeartbeats 4000000
noncomputable section
def cf:YA.Cf:={always:=[95,150].map fun k=>(k,.pure)}
def s42:SFn:=⟨192,[.cell 2 (some 5)],(.seq (.region [Zz 1 (.box .dyn (.t 0)) [],Zz 2 (.alloc .dyn (.agg [.nilsl,.nilsl,.nilsl,.nilsl,.nilsl])) []] [] [0]) (.seq (.region [Zf 17 0 1 [],Zw 18 5 17 [0],Zz 19 (.call .pure (.f 89) [(.t 18)]) [1],Zz 20 (.build [.nilsl,.nilsl,.nilsl,.nilsl,.nilsl] [(0,1,(.t 19))]) [2],Zz 3 (.alloc .dyn (.agg [.nilsl,.nilsl,.nilsl,.nilsl,.nilsl])) [],Zs 5 3 20 (Za [4,3,2] 5)] [] [17,18,19,20]) (.seq (.region [Zz 4 (.alloc .dyn .nilsl) []] [] []) (.seq (.region [Zf 21 5 1 [],Zl 22 21 [0],Zz 23 (.bin .rem (.t 22) (.c (.int .u8 3))) [1],Zz 24 (.conv .i64 (.t 23)) [2],Zz 25 (.bin .add (.c (.int .i64 1)) (.t 24)) [3],Zm 5 25 (Za [4] 5)] [] [21,22,23,24,25]) (.seq (.seq (.region [Zm 26 5 [],Zz 27 (.mov (.c (.int .i64 0))) []] [] []) (.block 0 (.loop (.seq (.region [Zb 28 .lss 27 26 []] [] []) (.seq (.cond (.t 28) .skip (.exit 0)) (.seq (.block 1 (.seq (.region [Zm 29 27 [],Zm 6 29 [0,0]] [] [28,29]) (.seq (.region [Zm 30 6 [],Zf 31 6 1 [],Zz 32 (.iaddr (some 3) 1 (.t 31) (.t 30)) [1,0],Zl 33 32 [2],Zz 34 (.call .pure (.f 90) [(.t 33)]) [3],Zm 7 34 (Za [4,4] 5)] [] [30,31,32,33,34]) (.seq (.region [Zl 35 4 [],Zm 36 7 [],Zz 37 (.call .pure (.f 91) [(.t 35),(.t 36)]) [0,1],Zs 1 4 37 [2,2,0,1,2]] [] [35,36,37]) (.region [Zf 38 1 3 [],Zl 39 38 [0],Zm 40 6 [],Zz 41 (.bin .add (.c (.int .i64 48)) (.t 40)) [2],Zz 42 (.conv .i32 (.t 41)) [3],Zz 43 (.convS (.t 42)) [4],Zz 44 (.bin .add (.c (.str [99])) (.t 43)) [5],Zm 45 7 [],Zm 46 6 [],Zf 47 9 1 [],Zz 48 (.iaddr (some 3) 27 (.t 47) (.t 46)) [9,8],Zw 49 27 48 [10],Zz 50 (.call .pure (.f 92) [(.t 45),(.t 49),(.c (.int .i64 3))]) [7,11],Zz 51 (.build [(.str []),.nilsl,(.int .i64 0),.nilsl,.nilsl] [(0,1,(.t 44)),(1,4,(.t 50))]) [6,12],Zz 52 (.bslice false .dyn 5 1 [(.str []),.nilsl,(.int .i64 0),.nilsl,.nilsl] [(0,5,(.t 51))]) [13],Zz 53 (.append .dyn 5 96 (.t 39) (.t 52)) [1,14,12],Zf 54 1 3 (Za [] 16),Zs 1 54 53 (Za [16,15,15] 16)] [] [6,7,38,39,40,41,42,43,44,45,46,47,48,49,50,51,52,53,54]))))) (.region [Zz 55 (.bin .add (.t 27) (.c (.int .i64 1))) [],Zm 27 55 [0]] [] [55]))))))) (.seq (.seq (.region [Zf 56 90 1 [],Zl 57 56 [0],Zz 58 (.bin .rem (.t 57) (.c (.int .u8 3))) [1],Zz 59 (.conv .i64 (.t 58)) [2],Zz 60 (.mov (.c (.int .i64 0))) []] [] [26,27,56,57,58]) (.block 2 (.loop (.seq (.region [Zb 61 .lss 60 59 []] [] []) (.seq (.cond (.t 61) .skip (.exit 2)) (.seq (.block 3 (.seq (.region [Zm 62 60 [],Zm 8 62 [0,0]] [] [61,62]) (.seq (.region [Zm 63 8 [],Zf 64 91 1 [],Zz 65 (.iaddr (some 2) 1 (.t 64) (.t 63)) [1,0],Zl 66 65 [2],Zz 67 (.call .heap (.f 90) [(.t 66)]) [3],Zz 68 (.mkfn 94 [] [(.t 4)]) [],Zz 69 (.call .heap (.f 93) [(.t 67),(.t 68)]) [4,5,4],Zm 9 69 (Za [6,6] 7)] [] [63,64,65,66,67,68,69]) (.region [Zf 70 2 3 [],Zl 71 70 [0],Zm 72 8 [],Zz 73 (.bin .add (.c (.int .i64 48)) (.t 72)) [2],Zz 74 (.conv .i32 (.t 73)) [3],Zz 75 (.convS (.t 74)) [4],Zz 76 (.bin .add (.c (.str [114])) (.t 75)) [5],Zm 77 9 [],Zm 78 8 [],Zf 79 93 1 [],Zz 80 (.iaddr (some 2) 27 (.t 79) (.t 78)) [9,8],Zw 81 27 80 [10],Zz 82 (.call .pure (.f 92) [(.t 77),(.t 81),(.c (.int .i64 3))]) [7,11],Zz 83 (.build [(.str []),.nilsl,(.int .i64 0),.nilsl,.nilsl] [(0,1,(.t 76)),(1,4,(.t 82))]) [6,12],Zz 84 (.bslice false .dyn 5 1 [(.str []),.nilsl,(.int .i64 0),.nilsl,.nilsl] [(0,5,(.t 83))]) [13],Zz 85 (.append .dyn 5 96 (.t 71) (.t 84)) [1,14,12],Zf 86 2 3 (Za [] 16),Zs 1 86 85 (Za [16,15,15] 16)] [] [8,9,70,71,72,73,74,75,76,77,78,79,80,81,82,83,84,85,86])))) (.region [Zz 87 (.bin .add (.t 60) (.c (.int .i64 1))) [],Zm 60 87 [0]] [] [87]))))))) (.seq (.seq (.region [Zf 88 147 1 [],Zl 89 88 [0],Zv 90 89 [1],Zz 91 (.mov (.c (.int .i64 0))) []] [] [4,59,60,88]) (.block 4 (.loop (.seq (.region [Zb 92 .lss 91 90 []] [] []) (.seq (.cond (.t 92) .skip (.exit 4)) (.seq (.block 5 (.seq (.region [Zm 93 91 [],Zi 94 4 89 91 [],Zw 95 4 94 [1],Zz 11 (.alloc .dyn (.agg [(.int .u8 0),(.int .u8 0),(.int .u8 0),(.int .u8 0)])) [],Zm 10 93 [0,0,1,2,3],Zs 4 11 95 (Za [3,2,4] 5)] [] [92,93,94,95]) (.seq (.seq (.region [Zm 96 10 [],Zz 97 (.bin .eql (.t 96) (.c (.int .i64 2))) [0]] [] [96]) (.cond (.t 97) (.exit 4) .skip)) (.seq (.region [Zm 98 10 [],Zz 99 (.bin .add (.c (.int .i64 48)) (.t 98)) [0],Zz 100 (.conv .i32 (.t 99)) [1],Zz 101 (.convS (.t 100)) [2],Zz 102 (.bin .add (.c (.str [101])) (.t 101)) [3],Zz 103 (.build [(.str []),.nilsl] [(0,1,(.t 102))]) [4],Zz 12 (.alloc .dyn (.agg [(.str []),.nilsl])) [],Zs 2 12 103 (Za [6,5] 7)] [] [10,97,98,99,100,101,102,103]) (.seq (.seq (.region [Zf 104 1 3 [],Zl 105 104 [0],Zv 106 105 [1],Zz 107 (.mov (.c (.int .i64 0))) []] [] [104,105]) (.block 6 (.loop (.seq (.region [Zb 108 .lss 107 106 []] [] []) (.seq (.cond (.t 108) .skip (.exit 6)) (.seq (.block 7 (.seq (.region [Zm 109 107 [],Zm 13 109 [0,0]] [] [108,109]) (.seq (.region [Zf 110 1 3 [],Zl 111 110 [0],Zm 112 13 [],Zi 113 5 111 112 [1,2],Zf 114 1 113 [3],Zf 115 1 114 [4],Zl 116 115 [5],Zm 14 116 (Za [6] 7)] [] [110,111,112,113,114,115,116]) (.seq (.region [Zm 117 13 [],Zz 118 (.iaddr (some 4) 1 (.t 11) (.t 117)) [0],Zl 119 118 [1],Zz 120 (.conv .i64 (.t 119)) [2],Zm 121 14 [],Zz 122 (.bin .add (.t 121) (.c (.int .i64 2))) [4],Zb 123 .rem 120 122 [3,5],Zm 124 14 [],Zb 125 .lss 123 124 [6,7]] [] [117,118,119,120,121,122,123,124]) (.cond (.t 125) (.region [Zf 126 1 12 [],Zl 127 126 [0],Zm 128 13 [],Zm 129 13 [],Zz 130 (.iaddr (some 4) 1 (.t 11) (.t 129)) [3],Zl 131 130 [4],Zz 132 (.conv .i64 (.t 131)) [5],Zm 133 14 [],Zz 134 (.bin .add (.t 133) (.c (.int .i64 2))) [7],Zb 135 .rem 132 134 [6,8],Zz 136 (.build [(.int .i64 0),(.int .i64 0)] [(0,1,(.t 128)),(1,1,(.t 135))]) [2,9],Zz 137 (.bslice false .dyn 2 1 [(.int .i64 0),(.int .i64 0)] [(0,2,(.t 136))]) [10],Zz 138 (.append .dyn 2 16 (.t 127) (.t 137)) [1,11],Zf 139 1 12 (Za [] 13),Zs 1 139 138 (Za [13,12,12] 13)] [] [13,14,125,126,127,128,129,130,131,132,133,134,135,136,137,138,139]) .skip))))) (.region [Zz 140 (.bin .add (.t 107) (.c (.int .i64 1))) [],Zm 107 140 [0]] [] [13,14,125,140]))))))) (.seq (.region [Zf 141 1 12 [],Zl 142 141 [0],Zv 143 142 [1],Zz 144 (.bin .gtr (.t 143) (.c (.int .i64 0))) [2]] [] [11,106,107,141,142,143]) (.cond (.t 144) (.region [Zf 145 3 3 [],Zl 146 145 [0],Zw 147 2 12 [],Zz 148 (.bslice false .dyn 2 1 [(.str []),.nilsl] [(0,2,(.t 147))]) [2],Zz 149 (.append .dyn 2 40 (.t 146) (.t 148)) [1,3],Zf 150 3 3 (Za [] 5),Zs 1 150 149 (Za [5,4,4] 5)] [] [12,144,145,146,147,148,149,150]) .skip))))))) (.region [Zz 151 (.bin .add (.t 91) (.c (.int .i64 1))) [],Zm 91 151 [0]] [] [12,144,151]))))))) (.seq (.region [Zf 152 151 1 [],Zl 153 152 [0],Zz 154 (.conv .i64 (.t 153)) [1],Zz 155 (.bin .rem (.t 154) (.c (.int .i64 8))) [2],Zz 156 (.build [(.str []),.nilsl,(.int .i64 0)] [(0,1,(.c (.str [107]))),(2,1,(.t 155))]) [3],Zz 15 (.alloc .dyn (.agg [(.str []),.nilsl,(.int .i64 0)])) [],Zs 3 15 156 (Za [5,4] 6)] [] [89,90,91,152,153,154,155,156]) (.seq (.seq (.region [Zm 157 5 [],Zz 158 (.mov (.c (.int .i64 0))) []] [] [5]) (.block 8 (.loop (.seq (.region [Zb 159 .lss 158 157 []] [] []) (.seq (.cond (.t 159) .skip (.exit 8)) (.seq (.block 9 (.seq (.region [Zm 160 158 [],Zm 16 160 [0,0]] [] [159,160]) (.seq (.region [Zm 161 16 [],Zf 162 148 1 [],Zz 163 (.iaddr (some 3) 1 (.t 162) (.t 161)) [1,0],Zl 164 163 [2],Zz 165 (.bin .neq (.t 164) (.c (.int .i8 0))) [3]] [] [161,162,163,164]) (.cond (.t 165) (.region [Zf 166 1 15 [],Zl 167 166 [0],Zm 168 16 [],Zm 169 16 [],Zf 170 148 1 [],Zz 171 (.iaddr (some 3) 1 (.t 170) (.t 169)) [4,3],Zl 172 171 [5],Zz 173 (.conv .i64 (.t 172)) [6],Zz 174 (.bin .rem (.t 173) (.c (.int .i64 4))) [7],Zz 175 (.build [(.int .i64 0),(.int .i64 0)] [(0,1,(.t 168)),(1,1,(.t 174))]) [2,8],Zz 176 (.bslice false .dyn 2 1 [(.int .i64 0),(.int .i64 0)] [(0,2,(.t 175))]) [9],Zz 177 (.append .dyn 2 16 (.t 167) (.t 176)) [1,10],Zf 178 1 15 (Za [] 12),Zs 1 178 177 (Za [12,11,11] 12)] [] [16,165,166,167,168,169,170,171,172,173,174,175,176,177,178]) .skip)))) (.region [Zz 179 (.bin .add (.t 158) (.c (.int .i64 1))) [],Zm 158 179 [0]] [] [16,165,179]))))))) (.seq (.region [Zf 180 1 15 [],Zl 181 180 [0],Zz 182 (.call .heap (.f 96) [(.t 181),(.f 97)]) [1],Zf 183 1 15 [0,1,2],Zs 1 183 182 [3,2,2,0,1,2]] [] [1,157,158,180,181,182,183]) (.seq (.seq (.region [Zf 184 1 15 [],Zl 185 184 [0],Zv 186 185 [1],Zz 187 (.bin .gtr (.t 186) (.c (.int .i64 0))) [2]] [] [184,185,186]) (.cond (.t 187) (.region [Zw 188 3 15 [],Zz 189 (.bslice false .dyn 3 1 [(.str []),.nilsl,(.int .i64 0)] [(0,3,(.t 188))]) [0],Zf 190 4 3 [0,1],Zs 1 190 189 [2,1,0,1]] [] [15,187,188,189,190]) .skip)) (.seq (.region [Zw 191 5 3 [],Zs 5 2 191 [0,0]] [] [3,15,187,191]) .ret))))))))))))⟩
def s93:SFn:=by
 refine(?f:YA.Yt Tryz.prog cf 93 [[4],[8,9,10],[11],[0,1,5,12,13],[4,12,14,15],[16,17,18],[19,22,23,24,25],[26,27,28],[7,29,30,31,32,33],[34,35],[7,29,20,21],[1,6,36,37,38],[0,5,39,40,41]]) ?s ?h;case h=>exact YA.rr
 exact fun s _=>s
def s92:SFn:=by
 refine(?f:YA.Yt Tryz.prog cf 92 [[1],[2,7,8,9,10,11,12],[0,4,13,14,15]]) ?s ?h;case h=>exact YA.rr
 exact fun s _=>s
def s94:SFn:=by
 refine(?f:YA.Yt Tryz.prog cf 94 [[3],[0,1,4,5,6,7]]) ?s ?h;case h=>exact YA.rr
 exact fun s _=>s
def s96:SFn:=by
 refine(?f:YA.Yt Tryz.prog cf 96 [[4],[8,9,10],[11],[0,1,5,12,13],[4,12,14,15],[16,17,18],[19,22,23,24,25],[26,27,28],[7,29,30,31,32,33],[34,35],[7,29,20,21],[1,6,36,37,38],[0,5,39,40,41]]) ?s ?h;case h=>exact YA.rr
 exact fun s _=>s
def s97:SFn:=by
 refine(?f:YA.Yt Tryz.prog cf 97 [[0,2],[1,3,4,5]]) ?s ?h;case h=>exact YA.rr
 exact fun s _=>s
def s151:SFn:=by
 refine(?f:YA.Yt Tryz.prog cf 151 [[4],[6],[],[9,10],[11,12,13,14,15],[0,1,7,8,5,16,17],[4,5,16,18],[0,1,7,8]]) ?s ?h;case h=>exact YA.rr
 exact fun s _=>s
def s153:SFn:=by
 refine(?f:YA.Yt Tryz.prog cf 153 [[4],[6],[],[9,10],[11,12,13,14,15],[0,1,7,8,5,16,17],[4,5,16,18],[0,1,7,8]]) ?s ?h;case h=>exact YA.rr
 exact fun s _=>s
end
end Go.AM.SU
namespace Go.AM
variable{P:Program}
variable{h:Heap}{b m:Nat}{f:Nat->List AV}{π:Nat->Option Src}{s:Nat->Src}
def rowsL(f:Nat->List AV)(ks:List Nat):HL:=ks.map fun k=>(300+k,.cells 0 (f k))
def psL(s:Nat->Src)(ks:List Nat):List (Nat×Src):=ks.map fun k=>(300+k,s k)
theorem Qcc:∀{ks:List Nat},ks.Nodup->(∀k∈ks,k<1000000)->∀{k:Nat},k∈ks->(hp (rowsL f ks)).get (300+k)=some (.cells 0 (f k))
 |[],_,_,k,h=>by cases h|j::ks,b,a,k,h=>by
  have d:=a j (by simp);show((hp (rowsL f ks)).set (300+j) _).get (300+k)=_;by_cases e:k=j;·grind[QaA]
  rw[QaH (by omega) (by omega)];exact Qcc (Zcj.1 b).2 (fun k c=>a k (by simp[c])) (by simp_all)
theorem Qek:∀{ks:List Nat},(∀k∈ks,k<1000000)->∀{b:Nat},(∀k∈ks,b≠300+k)->(hp (rowsL f ks)).get b=none|[],_,b,_=>get_e|j::ks,c,b,h=>by have d:=c j (by simp);show((hp (rowsL f ks)).set (300+j) _).get b=_;rw[QaH (by omega) (h j (by simp))];exact Qek (fun k a=>c k (by simp[a])) (fun k a=>h k (by simp[a]))
theorem QcC{g}:∀{ks:List Nat},(∀k∈ks,∀a c,s k=.blk a c->b≠a)->srcNew (.blk b g) (psL s ks)=true|[],_=>rfl|j::ks,h=>by show((match(Src.blk b g),s j with|.blk b _,.blk a _=>!Nat.beq b a|_,_=>true)&&srcNew (.blk b g) (psL s ks))=true;rw[QcC fun k d=>h k (by simp[d]),Zad];cases e:s j with|nil=>rfl|blk a c=>
 have:=h j (by simp) a c e;have f:Nat.beq b a=false:=by simp_all[ZaI]
 simp[f]
theorem QfX:∀{ks:List Nat},srcNew .nil (psL s ks)=true|[]=>rfl|j::ks=>by show((match Src.nil,s j with|.blk b _,.blk a _=>!Nat.beq b a|_,_=>true)&&srcNew .nil (psL s ks))=true;rw[QfX];rfl
theorem QcJ:∀{ks:List Nat},ks.Nodup->(∀k∈ks,k<1000000)->(∀k∈ks,∀j∈ks,k≠j->∀b g c d,s k=.blk b g->s j=.blk c d->b≠c)->okPs 0 (psL s ks) (rowsL f ks)=true
 |[],_,_,_=>rfl|j::ks,n,h,l=>by
  have p:=h j (by simp);obtain⟨h1,o⟩:=Zcj.1 n;show okPs 0 ((300+j,s j)::psL s ks) ((300+j,.cells 0 (f j))::rowsL f ks)=true;simp only[okPs,Zac,Zb7,Zb1,Zbo,ZaH];refine⟨⟨⟨⟨trivial,by omega⟩,.inr ⟨?_,?_⟩⟩,?_⟩,QcJ o (fun k a=>h k (by simp[a])) (fun k a i hi=>l k (by simp[a]) i (by simp[hi]))⟩;·cases s j with|nil=>rfl|blk b g=>simp
  ·cases e:s j with|nil=>exact QfX|blk b g=>exact QcC fun k a c d m=>l j (by simp) k (by simp[a]) (fun e=>h1 (e▸a)) b g c d e m
  rintro⟨b,x⟩hp;obtain⟨k,a,e⟩:=Zaq.1 hp;cases e;have:k≠j:=fun e=>h1 (e▸a);simp_all[ZaI]
theorem QiC:∀{ks:List Nat}{k:Nat},k∈ks->lkS (psL s ks) (300+k)=some (s k)
 |[],k,h=>by cases h|j::ks,k,h=>by
  show(if 300+k=300+j then some (s j)else lkS (psL s ks) (300+k))=_;by_cases e:k=j;·subst e;simp
  rw[if_neg (by omega)];exact QiC (by simp_all)
theorem QcT:∀{ks:List Nat},(∀k∈ks,RB m π h [(300+k,.cells 0 (f k))])->RB m π h (rowsL f ks)|[],_=>trivial|j::ks,a=>⟨(a j (by simp)).1,QcT fun k h=>a k (by simp[h])⟩
mutual theorem Qh7:∀v:AV,flatV v=true->noRef v=true|.any,_=>rfl|.bool _,_=>rfl|.int _ _,_=>rfl|.str _,_=>rfl|.agg cs,h=>by simp only[flatV]at h;simp only[noRef];exact Qb7 cs h|.tup cs,h=>by simp only[flatV]at h;simp only[noRef];exact Qb7 cs h|.nilptr,_=>rfl|.ptr _ _ _,h=>by simp[flatV]at h|.fptr _,h=>by simp[flatV]at h|.nilsl,_=>rfl|.sl _ _ _ _ _,h=>by simp[flatV]at h|.fsl _ _ _,h=>by simp[flatV]at h|.esl,_=>rfl|.nsl,_=>rfl|.nilmap,_=>rfl|.map _ _,h=>by simp[flatV]at h|.fmap _ _,h=>by simp[flatV]at h|.nilfn,_=>rfl|.fn f x y,h=>by simp only[flatV,Zac]at h;simp only[noRef,Zac];exact⟨Qb7 x h.1,Qb7 y h.2⟩|.nilif,_=>rfl|.ifc t v,h=>by simp only[flatV]at h;simp only[noRef];exact Qh7 v h|.typed _ _ _,h=>by simp[flatV]at h theorem Qb7:∀l:List AV,flatVs l=true->noRefs l=true|[],_=>rfl|x::l,h=>by simp only[flatVs,Zac]at h;simp only[noRefs,Zac];exact⟨Qh7 x h.1,Qb7 l h.2⟩end
theorem FSpec.QbD{f len sz}{args cs}(m:HSpec P f args .e (.sl b 0 0 len sz) (hp [(b,.cells 0 cs)]))(v:noRefs args=true)(hf:flatVs cs=true)(t:cs.length=len*sz)(o:Nat.blt b 1099511627775=true):FSpec P f args (.fsl cs len sz):=by
 obtain⟨hc,m⟩:=m;refine⟨hc,v,by simp_all[noRef,Qb7],fun F w d s c=>(m (only F) w d (HRel.only s) c).mono ?_⟩;rintro e u⟨q,n,rfl,E,H',V⟩;have i:∀k,n.O k->w.heap.size<=k:=fun k l=>(E.own k l).elim (fun h=>h.elim) id;refine⟨q,n.O,rfl,?_,fun k l=>⟨i k l,H'.inO k l⟩,RnO.sl (h:=hp [(b,.cells 0 cs)]) (by simp_all[hp,QaA]) hf t _ n u q H' V⟩;refine⟨E.os,E.tape,E.output,E.size,E.shape,fun k a _=>E.keep k a (fun h=>h),fun b g p o=>absurd o (Zay _),fun k a=>.inl a,fun k a=>?_,fun k a=>a.elim,rfl⟩;rcases a with a|a;·exact .inl a
 simp_all
end Go.AM
namespace Go.AM
variable{v:AV}{x:Blk}{L:HL}{h:Heap}{i:List (Nat×Nat)}{a:List (Nat×Src)}{fs:List Fr}{dead g ks:List Nat}{ops:List SOper}{N:NM}{b k n:Nat}{f:Nat->List AV}{s:Nat->Src}{p:Nat×Src}{ax:Opd->Option (List Nat)}{Q:QC}{T T0:Tmps}
theorem Qfk{g c d}(f:b≠k)(h:srcNew (.blk b g) a=true):srcNew (.blk b g) ((c,.blk k d)::a)=true:=by simp_all[ZaI,srcNew]
theorem QgQ{g}(i:b<1099511627775)(d:srcNew (.blk k g) a=true)(c:∀p∈a,p.1≠b)(h:okPs 0 a L=true):okPs 0 ((b,.blk k g)::a) ((b,x)::L)=true:=by
 simp only[okPs,Zac,Zb7,Zb1,Zbo,ZaH];refine⟨⟨⟨⟨trivial,by omega⟩,.inr ⟨by simp,d⟩⟩,fun p hp=>?_⟩,h⟩;have f:Nat.beq p.1 b=false:=by rw[ZaI];simpa using c p hp
 simp[f]
theorem Qe9(h:p∈psL s ks):300<=p.1:=by obtain⟨k,_,rfl⟩:=Zaq.1 h;simp
theorem QfY{x1 x2 x3}{i m l t u v}(z:ks.Nodup)(x:∀k∈ks,k<1000000)(y:∀k∈ks,∀j∈ks,k≠j->∀b g c d,s k=.blk b g->s j=.blk c d->b≠c)(a:∀k∈ks,∀b g,s k=.blk b g->i≠b/\m≠b/\l≠b)(n:i≠m)(q:i≠l)(o:m≠l):okPs 0 ((70,.blk i t)::(71,.blk m u)::(72,.blk l v)::psL s ks) ((70,x1)::(71,x2)::(72,x3)::rowsL f ks)=true:=by
 have A:=QcC (b:=i) (g:=t) (s:=s) (ks:=ks) fun k h c d e=>(a k h c d e).1;have w:=QcC (b:=m) (g:=u) (s:=s) (ks:=ks) fun k h c d e=>(a k h c d e).2.1;have B:=QcC (b:=l) (g:=v) (s:=s) (ks:=ks) fun k h c d e=>(a k h c d e).2.2;refine QgQ (by omega) (Qfk n (Qfk q A)) ?_ (QgQ (by omega) (Qfk o w) ?_ (QgQ (by omega) B ?_ (QcJ z x y)))
 ·intro p hp;simp only[Zav]at hp;rcases hp with rfl|rfl|hp;·simp
  ·simp
  grind[Qe9]
 ·intro p hp;simp only[Zav]at hp;rcases hp with rfl|hp;·simp
  grind[Qe9]
 intro p hp;grind[Qe9]
theorem Qcl{q1 q2 b}(a:k∈ks):ow 0 ((70,q1)::(71,q2)::(72,b)::psL s ks) (300+k)=some (s k):=by unfold ow;rw[if_neg (Zay _)];simp only[lkS];rw[if_neg (by omega),if_neg (by omega),if_neg (by omega)];exact QiC a
variable{P:Program}
abbrev Claims:=List (Nat×List Nat)
variable{C:Claims}
def clm:Claims->Nat->Option (List Nat)|[],_=>none|(j,a)::r,d=>bif Nat.beq j d then some a else clm r d
def absH(C:Claims)(d:Nat)(a:Option (List Nat)):Option (List Nat):=match clm C d with|some b=>some b|none=>a
def touch2(i:Nat)(ax:Opd->Option (List Nat)):SOp->Option (List Nat)|.call .pure _ _=>some []|s=>s.touch i ax
theorem QeV{i}{s}{h1}{f}(d:∀x bs,ax x=some bs->Pts (ev T x) bs)(n:touch2 i ax s.op=some g)(l:StepV P i s T h v h1 f):f.all=false/\∀b,b∈f.R\/b∈f.W->b∈g:=by
 by_cases hc:∃x a,s.op=.call .pure x a
 ·obtain⟨x,a,c⟩:=hc;have key:StepX P i s.op T h v h1 f->f.all=false/\∀b,b∈f.R\/b∈f.W->b∈g:=by rintro⟨out,p,hm,ho⟩;rw[c]at hm ho;simp only[aop]at hm ho;cases k:ev T x with|fn o first cap=>rw[k]at hm ho;simp only[aCall,HM.run,Zab,Zal]at hm;obtain⟨rfl,rfl⟩:=hm;simp only[aCall,HM.fp]at ho;obtain⟨_,_,rfl⟩:=ho;exact⟨rfl,fun b m=>by simp[fpOf]at m⟩|_=>rw[k]at hm;simp[aCall,HM.run]at hm
  unfold StepV at l;grind
 refine Qh5 d ?_ l;simp_all[touch2]
def touchesH(C:Claims)(n:Nat)(T:Tmps):List SOper->Abs->List (Option (List Nat))|[],_=>[]|s::r,A=>touch2 n (absO T A) s.op::touchesH C (n+1) T r (match s.dst with|some d=>(d,absH C d (s.op.absV n (absO T A)))::A|none=>A)
def ssa(C:Claims):List SOper->Bool|[]=>true|s::r=>(match s.dst with|some d=>(clm C d).isNone||r.all fun a=>(match a.dst with|some e=>!Nat.beq e d|none=>true)|none=>true)&&ssa C r
theorem Qpz:∀{r:List SOper}{n:Nat}{T:Tmps}{h:Heap}{K:Tmps->Heap->Nat->Prop},wpR P n r T h K->∃T' h' n',K T' h' n'/\∀d,(∀s∈r,s.dst≠some d)->lk T' d=lk T d|[],n,T,h,K,a=>⟨T,h,n,a,fun _ _=>rfl⟩|s::r,n,T,h,K,⟨v,h1,f,g,b⟩=>by obtain⟨T',h',n',a,he⟩:=Qpz b;refine⟨T',h',n',a,fun d c=>?_⟩;simp_all[QbJ]
theorem Qnr:∀{r:List SOper}{n:Nat}{A:Abs}{T:Tmps}{h:Heap}{K:Tmps->Heap->Nat->Prop}(hA:AbsOK T0 A T)(K':List FP->Tmps->Heap->Nat->Prop)(k:∀T h n,K T h n->∀d bs,clm C d=some bs->Pts (lk T d) bs)(a:ssa C r=true),(∀fs T h n',fs.length=r.length->(∀(j:Nat)g,(touchesH C n T0 r A).getD j none=some g->(fs.getD j ⟨false,[],[]⟩).all=false/\∀b,b∈(fs.getD j ⟨false,[],[]⟩).R\/b∈(fs.getD j ⟨false,[],[]⟩).W->b∈g)->K T h n'->K' fs T h n')->wpR P n r T h K->wpRF P n r T h K'
 |[],n,A,T,h,K,hA,K',k,a,o,hw=>o [] T h n rfl (fun j g i=>by simp_all) hw|s::r,n,A,T,h,K,hA,K',k,a,o,hw=>by
  obtain⟨v,h1,f,t,w⟩:=hw;simp only[ssa,Zac]at a;obtain⟨c,m⟩:=a;refine⟨v,h1,f,t,?_⟩;have q:AbsOK T0 (match s.dst with|some d=>(d,absH C d (s.op.absV n (absO T0 A)))::A|none=>A) (putD T s.dst v):=by cases e:s.dst with|none=>exact hA|some d=>
   refine AbsOK.up hA fun bs l=>?_;unfold absH at l;split at l
   ·rename_i y hc;cases l;obtain⟨T',B,n',p,he⟩:=Qpz w;have x:=k T' B n' p d _ hc;rw[he d ?_,QbJ,if_pos e]at x;·exact x
    intro E u;rw[e]at c;simp only[hc,Option.isNone_some,Bool.false_or,ZaH]at c;have:=c E u;intro F;simp_all
   exact Qej hA.opd l t
  refine Qnr q (fun fs T h n=>K' (f::fs) T h n) k m (fun fs T h n' z hf p=>?_) w;refine o (f::fs) T h n' (by simp[z]) (fun j g i=>?_) p;cases j with|zero=>simp only[touchesH,List.getD_cons_zero]at i⊢;exact QeV hA.opd i t|succ j=>simp only[touchesH,List.getD_cons_succ]at i⊢;exact hf j g i
def Clms(T:Tmps):Claims->Prop|[]=>True|(d,a)::r=>Pts (lk T d) a/\Clms T r
theorem Clms.get:∀{C:Claims},Clms T C->∀d bs,clm C d=some bs->Pts (lk T d) bs
 |[],_,d,bs,h=>by cases h|(j,cs)::r,a,d,bs,h=>by
  simp only[clm]at h
  cases e:Nat.beq j d with|true=>
   rw[e]at h;simp only[cond_true,Zab]at h;have:j=d:=by simpa using e
   subst this;subst h;exact a.1|false=>rw[e]at h;exact Clms.get a.2 d bs h
theorem QcU(C){p}(c:ssa C ops=true)(hp:pairsOK (touchesH C n T ops []) (p::i)=true)(hw:wR P N ops [] [] n T h fun e T h n=>Clms T C/\wX P N .normal fs n (rm T dead) h Q):wS P N (.region ops (p::i) dead) fs n T h Q:=by
 have rm0:∀T:Tmps,rm T []=T:=by intro T;induction T with|nil=>rfl|cons p T k=>obtain⟨j,v⟩:=p;simp[rm,k]
 refine Qnr (C:=C) (K:=fun T h n=>Clms T C/\wX P N .normal fs n (rm T dead) h Q) AbsOK.nil _ (fun T h n f d u hc=>f.1.get d u hc) c (fun s T h A E hf f=>⟨?_,f.2⟩) ?_
 ·rw[ZaH];intro q m;have:=ZaH.1 hp q m;split at this
  ·rename_i a b t l;obtain⟨z,F⟩:=hf _ _ t;obtain⟨w,I⟩:=hf _ _ l;have B:∀x y,x∈a->y∈b->x≠y:=by grind
   have H:∀xs g:List Nat,(∀x∈xs,∀y∈g,x≠y)->disj xs g=true:=by intro xs g G;unfold disj;grind
   grind[FP.apart]
  cases this
 have o:wpR P n ops T h fun T h n=>Clms (rm T []) C/\wX P N .normal fs n (rm (rm T []) dead) h Q:=hw;simp_all
end Go.AM
namespace Go.AM
variable{P:Program}{N:NM}{n:Nat}{d:Option Nat}{af dead:List Nat}{r:List SOper}{T:Tmps}{h:Heap}{Q:QC}{fs:List Fr}
def wAn(P:Program)(N:NM)(ys:Option (List AV))(len sz bytes:Nat)(d:Option Nat)(ops:List SOper)(dead:List Nat)(fs:List Fr)(n:Nat)(T:Tmps)(h:Heap)(Q:QC):Prop:=∃y,ys=some y/\(len*bytes<=140737488355328/\len<=140737488355328)/\y.all AV.one=true/\wN P N y (.sl n 0 0 len sz) d ops dead fs n T h Q
theorem QgR{sz bytes b g off len}(a:0<len):wM P N (aAppend .dyn n sz bytes .nilsl (.sl b g off len sz)) d r dead fs n T h Q=wAn P N (srcB (h.get b) g off len sz) len sz bytes d r dead fs n T h Q:=by obtain⟨k,rfl⟩:∃k,len=k+1:=⟨len-1,by omega⟩;rw[QoM];rfl
theorem Qns{ys}{len sz bytes}(h1:len*bytes<=140737488355328)(c:len<=140737488355328):wAn P N (some ys) len sz bytes d r dead fs n T h Q=if ys.all AV.one=true then wN P N ys (.sl n 0 0 len sz) d r dead fs n T h Q else False:=by
 by_cases ho:ys.all AV.one=true
 ·rw[if_pos ho];apply propext;constructor;·rintro⟨y,b,_,_,a⟩;simp_all
  intro a;exact⟨ys,rfl,⟨h1,c⟩,ho,a⟩
 rw[if_neg ho];apply propext;constructor;·rintro⟨y,b,_,f,a⟩;grind
 simp_all
end Go.AM
namespace Go.AM
variable{h:Heap}{d:List (Nat×Nat)}{a c:List (Option (List Nat))}{b:List Nat}{m:Nat}{π:Nat->Option Src}
theorem QgS:pairsOK a []=true:=rfl
theorem Qdq{i j}{a}(h1:c.getD i none=some a)(f:c.getD j none=some b)(g:∀x∈a,x∉b)(h:pairsOK c d=true):pairsOK c ((i,j)::d)=true:=by simp_all[pairsOK]
theorem Rn.nilK{sz}:Rn m π h (.fsl [] 0 sz) .nilsl:=fun _ c w v H M a=>by simp_all[VRel]
end Go.AM
namespace Go.AM.SE
open Go.Proofs Go.AM.SD
variable{a:Aut}{h:Heap}{cs:List AV}{es:List Ed}{d l:List Int}{f mk u unc ys:List Nat}{i k n v x y:Nat}{left:Nat->Bool}{p:Nat×Nat}{s:QS}
def keysR(es:List Ed):List Nat:=es.foldl (fun l e=>if l.contains e.2.2 then l else l++[e.2.2]) []
theorem QqA{e}(h:es[i]?=some e):keysR (es.take (i+1))=if(keysR (es.take i)).contains e.2.2 then keysR (es.take i)else keysR (es.take i)++[e.2.2]:=by unfold keysR;rw[Za6,h,Option.toList,Zba];rfl
theorem Qfa:∀{es:List Ed}{x:Nat},x∈keysR es↔∃e∈es,e.2.2=x:=by
 have key:∀(es:List Ed)(l:List Nat)(x:Nat),x∈es.foldl (fun l e=>if l.contains e.2.2 then l else l++[e.2.2]) l↔x∈l\/∃e∈es,e.2.2=x:=by intro es;induction es with|nil=>intro l x;simp|cons e es c=>
  intro l x;rw[ZaS,c];by_cases h:l.contains e.2.2=true
  ·rw[if_pos h];have d:e.2.2∈l:=by simpa using h
   constructor
   ·rintro(h1|⟨b,h1,a⟩);·exact .inl h1
    exact .inr ⟨b,by simp[h1],a⟩
   rintro(h1|⟨b,h1,a⟩);·exact .inl h1
   rcases Zav.1 h1 with rfl|h1;·exact .inl (a▸d)
   exact .inr ⟨b,h1,a⟩
  rw[if_neg h];constructor
  ·rintro(h1|⟨b,h1,a⟩)
   ·rcases ZaE.1 h1 with h1|h1;·exact .inl h1
    exact .inr ⟨e,by simp,(by simpa using h1:x=e.2.2).symm⟩
   exact .inr ⟨b,by simp[h1],a⟩
  rintro(h1|⟨b,h1,a⟩);·exact .inl (by simp[h1])
  rcases Zav.1 h1 with rfl|h1;·exact .inl (by simp[a])
  exact .inr ⟨b,h1,a⟩
 intro es x;have:=key es [] x;unfold keysR;rw[this];simp
theorem QoO(es):(keysR es).Nodup:=by
 have key:∀(es:List Ed)(l:List Nat),l.Nodup->(es.foldl (fun l e=>if l.contains e.2.2 then l else l++[e.2.2]) l).Nodup:=by intro es;induction es with|nil=>intro l h;exact h|cons e es g=>
  intro l h;rw[ZaS];refine g _ ?_;split;·exact h
  rename_i h1;rw[List.nodup_append];refine⟨h,by simp,fun a f b c=>?_⟩;rw[ZaU.1 c];intro d;subst d;exact h1 (by simpa using f)
 exact key es [] List.nodup_nil
theorem Qcd{e}(h:es[i]?=some e)(v):preds (es.take (i+1)) v=preds (es.take i) v++if e.2.2=v then[e.1]else[]:=by unfold preds;rw[Za6,h,Option.toList,Zbj,ZaJ];congr 1;by_cases h1:e.2.2=v<;>simp[h1]
theorem Qel(h:v∉keysR es):preds es v=[]:=by unfold preds;rw[List.map_eq_nil_iff,List.filter_eq_nil_iff];intro e he h1;exact h (Qfa.2 ⟨e,he,by simpa using h1⟩)
theorem Qlx(es)(v):(preds es v).length<=es.length:=by unfold preds;rw[Zax];exact Za4 _ _
abbrev pblk(a:Aut)(u:List Nat):List AV:=[ZN a.al,.int .i64 (a.n:Int),ZN a.ms,egsN a.es,ZN u,.map 71 0,.sl 72 0 0 a.n 1]
abbrev backF(es:List Ed):Nat->AV:=fun k=>ZN (preds es k)
abbrev startL(a:Aut)(f u:List Nat):HL:=[(70,.cells 0 (pblk a u)),(71,.map 0 (mapF .i64 (backF a.es) (keysR a.es))),(72,.cells 0 (bls (left0 a.n f)))]
abbrev rowF(es:List Ed):Nat->List AV:=fun k=>ZI (nz (preds es k))
abbrev ptrF(es:List Ed):Nat->AV:=fun k=>.sl (300+k) 0 0 (preds es k).length 1
theorem QqB(h:f[i]?=some x):left0 n (f.take (i+1))=(left0 n (f.take i)).set x false:=by unfold left0 offs;rw[Za6,h,Option.toList,Zba];rfl
theorem Qly:(left0 n f).length=n:=by unfold left0;rw[Qiy];simp
theorem reps(n):(List.replicate n [AV.bool false]).flatten=bls (List.replicate n false):=by induction n with|zero=>rfl|succ n a=>rw[Za7,Zbw,a];rfl
theorem QtA(h:i<n):(List.replicate i true++List.replicate (n-i) false).set i true=List.replicate (i+1) true++List.replicate (n-(i+1)) false:=by rw[List.set_append_right _ _ (by simp),Zbv,ZbO,show n-i=(n-(i+1))+1 by omega,Za7,ZbV,List.replicate_succ',ZaQ];rfl
theorem start34(a:Aut)(f u)(B:∀e∈a.es,e.1<a.n/\e.2.2<a.n)(hf:∀x∈f,x<a.n)(X:a.n<=4096)(Q:a.es.length<=1000000)(T:f.length<=1000000):HSpec Tryz.prog 118 [aV a,ZN f,ZN u] .e (.ptr 70 0 0) (hp (startL a f u)):=by
 refine ZcV 74 (Ok s118) rfl ?_;have J:(a.n:Int)<=140737488355328:=by omega
 unfold s118;refine Zc7 (Zc8 J @reps) ?_;refine Qas 100 (fun i:Nat=>[(1,ZN f),(3,.ptr 60 0 0),(7,.ptr 70 0 0),(25,.int .i64 a.n),(26,.int .i64 i)]) (fun i=>[(60,.cells 0 [ZN a.al,.int .i64 (a.n:Int),ZN a.ms,egsN a.es]),(70,.cells 0 (pblk a u)),(71,.map 0 []),(72,.cells 0 (bls (List.replicate i true++List.replicate (a.n-i) false)))]) (fun i=>i<=a.n) (fun i=>a.n-i) 0 0 120 (fun _:Unit=>[(1,ZN f),(3,.ptr 60 0 0),(7,.ptr 70 0 0)]) (fun _=>[(60,.cells 0 [ZN a.al,.int .i64 (a.n:Int),ZN a.ms,egsN a.es]),(70,.cells 0 (pblk a u)),(71,.map 0 []),(72,.cells 0 (bls (left0 a.n (f.take 0))))]) (fun _=>True) ?_ (Zaj _) ?_ ?_;·exact⟨[(60,.blk 74 0),(70,.blk 83 0),(71,.blk 78 0),(72,.blk 81 0)],rfl,au0,au1,au2⟩
 ·rintro i hi;by_cases m:i<a.n
  ·have h1:i+1<=i+(a.n-i):=by omega
   refine Zc7 (Zda m h1 @Qke (QtA m)) ?_;exact b2gsH
  have e:i=a.n:=by omega
  subst e;have C:List.replicate a.n true++List.replicate (a.n-a.n) false=left0 a.n (f.take 0):=by simp[left0,offs]
  refine Zc7 m ?_;refine⟨(),?_⟩;rw[C];exact⟨[(60,.blk 60 0),(70,.blk 70 0),(71,.blk 71 0),(72,.blk 72 0)],rfl,au0,au1,au2⟩
 rintro _ _;refine Zc6 ?_;refine Qas 140 (fun i:Nat=>[(3,.ptr 60 0 0),(7,.ptr 70 0 0),(36,ZN f),(37,.int .i64 f.length),(38,.int .i64 i)]) (fun i=>[(60,.cells 0 [ZN a.al,.int .i64 (a.n:Int),ZN a.ms,egsN a.es]),(70,.cells 0 (pblk a u)),(71,.map 0 []),(72,.cells 0 (bls (left0 a.n (f.take i))))]) (fun i=>i<=f.length) (fun i=>f.length-i) 0 2 160 (fun _:Unit=>[(3,.ptr 60 0 0),(7,.ptr 70 0 0)]) (fun _=>[(60,.cells 0 [ZN a.al,.int .i64 (a.n:Int),ZN a.ms,egsN a.es]),(70,.cells 0 (pblk a u)),(71,.map 0 []),(72,.cells 0 (bls (left0 a.n f)))]) (fun _=>True) ?_ (Zaj _) ?_ ?_;·exact⟨[(60,.blk 60 0),(70,.blk 70 0),(71,.blk 71 0),(72,.blk 72 0)],rfl,au0,au1,au2⟩
 ·rintro i hi;by_cases m:i<f.length
  ·obtain⟨x,l⟩:=Qak m;have n:=hf x (Zaa l);have I:x+1<=(left0 a.n (f.take i)).length:=by rw[Qly];exact n
   simp(disch:=first|omega|exact PairsOK.mk rfl|(simp only[lenW]<;>omega))only[m,QaI l,n,I,Qke,<-QqB l,wW,wV,simprocAttr];exact b2gsH
  have e:i=f.length:=by omega
  subst e;refine Zc7 m ?_;refine⟨(),?_⟩;exact⟨[(60,.blk 60 0),(70,.blk 70 0),(71,.blk 71 0),(72,.blk 72 0)],rfl,au0,au1,au2⟩
 rintro _ _;refine Zc6 ?_;have hrn:∀k∈List.range a.n,k<1000000:=fun k d=>by have:=Zau.1 d;omega
 refine Qas 170 (fun i:Nat=>[(7,.ptr 70 0 0),(50,egsN a.es),(51,.int .i64 a.es.length),(52,.int .i64 i)]) (fun i=>(70,.cells 0 (pblk a u))::(71,.map 0 (mapF .i64 (ptrF (a.es.take i)) (keysR (a.es.take i))))::(72,.cells 0 (bls (left0 a.n f)))::rowsL (rowF (a.es.take i)) (List.range a.n)) (fun i=>i<=a.es.length) (fun i=>a.es.length-i) 0 4 200 (fun _:Unit=>[(7,.ptr 70 0 0)]) (fun _=>startL a f u) (fun _=>True) ?_ (Zaj _) ?_ ?_
 ·refine⟨(70,.blk 70 0)::(71,.blk 71 0)::(72,.blk 72 0)::psL (fun _=>.nil) (List.range a.n),QfY Za3 hrn (fun _ _ _ _ _ b g N O h=>by cases h) (fun _ _ b g h=>by cases h) (by decide) (by decide) (by decide),ZcA,?_,au2⟩;repeat'(first|exact ZcD|(refine Zct ?_;first|rfl|(simp only[noRef,noRefs,Qaf,Zae,Zad,Zai,Qaa,Qam,Qag,Qan,Qai,Qah,Qab,Qar,Qaj];done))|exact ZcR rfl|exact ZcJ|exact(True.intro:RnM _ _ _ [] [])|refine ZcK ?_ ?_|(refine Zcs ?_;first|rfl|(simp only[noRef,noRefs,Qaf,Zae,Zad,Zai,Qaa,Qam,Qag,Qan,Qai,Qah,Qab,Qar,Qaj];done))|exact Rn.x1 rfl rfl|exact Rn.x2 rfl rfl|exact Rn.x3 rfl rfl|exact Rn.x4 rfl rfl|exact Rn.x5 rfl|exact Rn.x6 rfl|exact Rn.x7 rfl|refine ZcF rfl rfl ?_|refine ZcE rfl rfl rfl ?_ ?_|refine ZcG rfl rfl rfl ?_ ?_|refine ZcH rfl rfl ?_ ?_|refine ZcI rfl rfl ?_ ?_)
  refine QcT fun k d=>?_;exact ZcF rfl (Qcl d) ZcD
 ·rintro i hi;by_cases m:i<a.es.length
  ·obtain⟨e,he⟩:=Qak m;obtain⟨P,M⟩:=B e (Zaa he);have v:=QqA he;have K:=QoO (a.es.take i);have U:(preds (a.es.take i) e.2.2).length<=1000000:=by have:=Qlx (a.es.take i) e.2.2;rw[Zap]at this;omega
   have o:=Qcc (f:=rowF (a.es.take i)) Za3 hrn (Zau.2 M);have s:∀b,b<300->(hp (rowsL (rowF (a.es.take i)) (List.range a.n))).get b=none:=fun b p=>Qek hrn fun k d=>by omega
   refine Zc7 (Zc9 m (QaR he) s) ?_;refine QcU [(57,[70]),(59,[71]),(63,[70]),(65,[71]),(68,[300+e.2.2])] rfl ?_ ?_;·exact Qdq (a:=[71]) (b:=[190]) rfl rfl (fun x l=>by simp only[Zav,Za2,or_false]at l⊢;omega) (Qdq (a:=[70]) (b:=[191,300+e.2.2,190]) rfl rfl (fun x l=>by simp only[Zav,Za2,or_false]at l⊢;omega) (Qdq (a:=[173]) (b:=[191,300+e.2.2,190]) rfl rfl (fun x l=>by simp only[Zav,Za2,or_false]at l⊢;omega) QgS))
   refine Zc7 s ?_;refine Qci ?_;refine Zc7 s ?_;by_cases d:e.2.2∈keysR (a.es.take i)
   ·refine wK_in d ?_;refine Zc7 (Zc8 o s) ?_;refine Qbe ?_;refine Zc7 (Zc8 o s) ?_;refine Qv7 K d (by decide) ?_;refine Zc7 (Zc8 o s) ?_;refine⟨⟨⟨_,rfl,fun b p=>p⟩,⟨_,rfl,fun b p=>p⟩,⟨_,rfl,fun b p=>p⟩,⟨_,rfl,fun b p=>p⟩,⟨_,rfl,fun b p=>p⟩,trivial⟩,i+1,by omega,by omega,?_⟩;rw[if_pos (by simpa using d)]at v;have y:∀x∈keysR (a.es.take (i+1)),x<a.n:=fun x l=>by obtain⟨H,A,rfl⟩:=Qfa.1 l;exact(B H (ZaX A)).2
    generalize w:psL (fun k=>if k∈keysR (a.es.take (i+1))then(if k=e.2.2 then .blk (300+e.2.2) 1 else .blk (300+k) 0:Src)else .nil) (List.range a.n)=PS;have t:∀k:Nat,k<a.n->k≠e.2.2->(hp (rowsL (rowF (a.es.take i)) (List.range a.n))).get (300+k)=some (.cells 0 (rowF (a.es.take i) k)):=fun k d _=>Qcc Za3 hrn (Zau.2 d);refine⟨(70,.blk 70 0)::(71,.blk 71 0)::(72,.blk 72 0)::PS,?_,ZcA,?_,?_⟩
    ·exact bDUuv
    ·subst w;refine ZcE rfl rfl (by simp(disch:=omega)only[QaA,QaH,Qa0];rfl) ?_ (ZcG rfl rfl (by simp(disch:=omega)only[QaA,QaH,Qa0];rfl) ?_ (ZcE rfl rfl (by simp(disch:=omega)only[QaA,QaH,Qa0]) (Zct (Qai _)) ?_));·repeat'(first|exact ZcD|(refine Zct ?_;first|rfl|(simp only[noRef,noRefs,Qaf,Zae,Zad,Zai,Qaa,Qam,Qag,Qan,Qai,Qah,Qab,Qar,Qaj];done))|exact ZcR rfl|exact ZcJ|exact(True.intro:RnM _ _ _ [] [])|refine ZcK ?_ ?_|(refine Zcs ?_;first|rfl|(simp only[noRef,noRefs,Qaf,Zae,Zad,Zai,Qaa,Qam,Qag,Qan,Qai,Qah,Qab,Qar,Qaj];done))|exact Rn.x1 rfl rfl|exact Rn.x2 rfl rfl|exact Rn.x3 rfl rfl|exact Rn.x4 rfl rfl|exact Rn.x5 rfl|exact Rn.x6 rfl|exact Rn.x7 rfl|refine ZcF rfl rfl ?_|refine ZcE rfl rfl rfl ?_ ?_|refine ZcG rfl rfl rfl ?_ ?_|refine ZcH rfl rfl ?_ ?_|refine ZcI rfl rfl ?_ ?_)
     ·rw[v];refine ZcW fun x l=>?_;have E:x∈keysR (a.es.take (i+1)):=by rw[v];exact l
      have n:=y x E;unfold updF ptrF;split;·rename_i c;subst c;(rw[Qcd he,if_pos rfl,Zag];exact Rn.x1 rfl (by rw[Qcl (Zau.2 n)];simp[l]))
      exact bXHQR
     refine QcT fun k d=>?_;have F:=Zau.1 d;by_cases q:k∈keysR (a.es.take (i+1))
     ·by_cases c:k=e.2.2;·subst c;refine ZcE rfl (b:=300+e.2.2) (g:=1) (ds:=rowF (a.es.take i) e.2.2++[.int .i64 (e.1:Int)]) (by rw[Qcl d];simp[q]) (by simp(disch:=omega)only[QaA,QaH,Qa0]) (RnL.eq ?_ (Qaa _)) ZcD;unfold SE.rowF;rw[Qcd he,if_pos rfl,QaM,QaB];rfl
      exact b8ZPD
     exact bKi5k
    exact au2
   refine Qnn d ?_;refine Zc7 (Zda o s @QgR @Qns) ?_;refine Qbe ?_;refine Zc7 (Zc8 o s) ?_;refine Qbz d (by decide) ?_;refine Zc7 (Zc8 o s) ?_;refine⟨⟨⟨_,rfl,fun b p=>p⟩,⟨_,rfl,fun b p=>p⟩,⟨_,rfl,fun b p=>p⟩,⟨_,rfl,fun b p=>p⟩,⟨[],rfl,fun b p=>by cases p⟩,trivial⟩,i+1,by omega,by omega,?_⟩;rw[if_neg (by simpa using d)]at v;have y:∀x∈keysR (a.es.take (i+1)),x<a.n:=fun x l=>by obtain⟨H,A,rfl⟩:=Qfa.1 l;exact(B H (ZaX A)).2
   have G:=Qel d;generalize w:psL (fun k=>if k∈keysR (a.es.take (i+1))then(if k=e.2.2 then .blk 191 0 else .blk (300+k) 0:Src)else .nil) (List.range a.n)=PS;have t:∀k:Nat,k<a.n->k≠e.2.2->(hp (rowsL (rowF (a.es.take i)) (List.range a.n))).get (300+k)=some (.cells 0 (rowF (a.es.take i) k)):=fun k d _=>Qcc Za3 hrn (Zau.2 d);refine⟨(70,.blk 70 0)::(71,.blk 71 0)::(72,.blk 72 0)::PS,?_,ZcA,?_,?_⟩
   ·exact bDUuv
   ·subst w;refine ZcE rfl rfl (by simp(disch:=omega)only[QaA,QaH,Qa0];rfl) ?_ (ZcG rfl rfl (by simp(disch:=omega)only[QaA,QaH,Qa0];rfl) ?_ (ZcE rfl rfl (by simp(disch:=omega)only[QaA,QaH,Qa0]) (Zct (Qai _)) ?_));·repeat'(first|exact ZcD|(refine Zct ?_;first|rfl|(simp only[noRef,noRefs,Qaf,Zae,Zad,Zai,Qaa,Qam,Qag,Qan,Qai,Qah,Qab,Qar,Qaj];done))|exact ZcR rfl|exact ZcJ|exact(True.intro:RnM _ _ _ [] [])|refine ZcK ?_ ?_|(refine Zcs ?_;first|rfl|(simp only[noRef,noRefs,Qaf,Zae,Zad,Zai,Qaa,Qam,Qag,Qan,Qai,Qah,Qab,Qar,Qaj];done))|exact Rn.x1 rfl rfl|exact Rn.x2 rfl rfl|exact Rn.x3 rfl rfl|exact Rn.x4 rfl rfl|exact Rn.x5 rfl|exact Rn.x6 rfl|exact Rn.x7 rfl|refine ZcF rfl rfl ?_|refine ZcE rfl rfl rfl ?_ ?_|refine ZcG rfl rfl rfl ?_ ?_|refine ZcH rfl rfl ?_ ?_|refine ZcI rfl rfl ?_ ?_)
    ·rw[v];refine ZcW fun x l=>?_;have E:x∈keysR (a.es.take (i+1)):=by rw[v];exact l
     have n:=y x E;unfold updF ptrF;split;·rename_i c;subst c;(rw[Qcd he,if_pos rfl,G];exact Rn.x1 rfl (by rw[Qcl (Zau.2 n)];simp[l]))
     exact bXHQR
    refine QcT fun k d=>?_;have F:=Zau.1 d;by_cases q:k∈keysR (a.es.take (i+1))
    ·by_cases c:k=e.2.2;·subst c;refine ZcE rfl (b:=191) (g:=0) (ds:=[.int .i64 (e.1:Int)]) (by rw[Qcl d];simp[q]) (by simp(disch:=omega)only[QaA,QaH,Qa0]) (RnL.eq ?_ (Qaa _)) ZcD;unfold SE.rowF;rw[Qcd he,if_pos rfl,QaM,QaB];(rw[G];rfl)
     exact b8ZPD
    exact bKi5k
   exact au2
  have e:i=a.es.length:=by omega
  subst e;have y:∀x∈keysR a.es,x<a.n:=fun x l=>by obtain⟨H,A,rfl⟩:=Qfa.1 l;exact(B H A).2
  refine Zc7 m ?_;refine⟨(),[(70,.blk 70 0),(71,.blk 71 0),(72,.blk 72 0)],rfl,ZcA,?_,au2⟩;refine ZcE rfl rfl (by simp(disch:=omega)only[QaA,QaH,Qa0];rfl) ?_ (ZcG rfl rfl (by simp(disch:=omega)only[QaA,QaH,Qa0];rfl) ?_ (ZcE rfl rfl (by simp(disch:=omega)only[QaA,QaH,Qa0]) (Zct (Qai _)) ZcD));·repeat'(first|exact ZcD|(refine Zct ?_;first|rfl|(simp only[noRef,noRefs,Qaf,Zae,Zad,Zai,Qaa,Qam,Qag,Qan,Qai,Qah,Qab,Qar,Qaj];done))|exact ZcR rfl|exact ZcJ|exact(True.intro:RnM _ _ _ [] [])|refine ZcK ?_ ?_|(refine Zcs ?_;first|rfl|(simp only[noRef,noRefs,Qaf,Zae,Zad,Zai,Qaa,Qam,Qag,Qan,Qai,Qah,Qab,Qar,Qaj];done))|exact Rn.x1 rfl rfl|exact Rn.x2 rfl rfl|exact Rn.x3 rfl rfl|exact Rn.x4 rfl rfl|exact Rn.x5 rfl|exact Rn.x6 rfl|exact Rn.x7 rfl|refine ZcF rfl rfl ?_|refine ZcE rfl rfl rfl ?_ ?_|refine ZcG rfl rfl rfl ?_ ?_|refine ZcH rfl rfl ?_ ?_|refine ZcI rfl rfl ?_ ?_)
  refine ZcW fun x l=>?_;have n:=y x l;have R:=Qcc (f:=SE.rowF a.es) Za3 hrn (Zau.2 n);have h1:Nat.beq (300+x) 70=false:=by rw[ZaI];simp;try omega
  have z:Nat.beq (300+x) 71=false:=by rw[ZaI];simp;try omega
  have S:Nat.beq (300+x) 72=false:=by rw[ZaI];simp;try omega
  exact ZcL (by simp(disch:=omega)only[QaA,QaH,Qa0,R]) (by simp[srcNew,h1,z,S]) (by simp) rfl (by rw[Qc6,Zax,ZbY]) (Zct (Qaa _))
 rintro _ _;refine Zc6 ?_;refine⟨.inr trivial,_,rfl,[(70,.blk 70 0),(71,.blk 71 0),(72,.blk 72 0)],rfl,ZcA,?_,au2⟩;refine ZcE rfl rfl rfl ?_ (ZcG rfl rfl rfl (ZcW fun x _=>Zcs (Qab _)) (ZcE rfl rfl rfl (Zct (Qai _)) ZcD));repeat'(first|exact ZcD|(refine Zct ?_;first|rfl|(simp only[noRef,noRefs,Qaf,Zae,Zad,Zai,Qaa,Qam,Qag,Qan,Qai,Qah,Qab,Qar,Qaj];done))|exact ZcR rfl|exact ZcJ|exact(True.intro:RnM _ _ _ [] [])|refine ZcK ?_ ?_|(refine Zcs ?_;first|rfl|(simp only[noRef,noRefs,Qaf,Zae,Zad,Zai,Qaa,Qam,Qag,Qan,Qai,Qah,Qab,Qar,Qaj];done))|exact Rn.x1 rfl rfl|exact Rn.x2 rfl rfl|exact Rn.x3 rfl rfl|exact Rn.x4 rfl rfl|exact Rn.x5 rfl|exact Rn.x6 rfl|exact Rn.x7 rfl|refine ZcF rfl rfl ?_|refine ZcE rfl rfl rfl ?_ ?_|refine ZcG rfl rfl rfl ?_ ?_|refine ZcH rfl rfl ?_ ?_|refine ZcI rfl rfl ?_ ?_)
abbrev pv(a:Aut)(u:List Nat)(l:LB):AV:=.fptr [ZN a.al,.int .i64 (a.n:Int),ZN a.ms,egsN a.es,ZN u,fmapF .i64 (backF a.es) (keysR a.es),.fsl (bls l) a.n 1]
theorem Qd5{f:Nat->AV}(h:∀x,noRef (f x)=true)(l:List Nat):noRefs (l.map f)=true:=by induction l with|nil=>rfl|cons x l a=>simp only[ZaL,noRefs,h,a];rfl
theorem Qal(k)(l:List Nat):noRefs (l.map fun x:Nat=>AV.int k (x:Int))=true:=Qd5 (fun _=>rfl) l
theorem Qao(es)(l:List Nat):noRefs (l.map (backF es))=true:=Qd5 (fun x=>Qab _) l
theorem QrN(h:mk[i]?=some x):bMks n (mk.take (i+1)) left=bMk left (bMks n (mk.take i) left) x:=by unfold bMks;rw[Za6,h,Option.toList,Zba];rfl
theorem QtB(n)(mk)(left):(bMks n mk left).1.length=n:=by
 have key:∀(mk:List Nat)(s:QS),(mk.foldl (bMk left) s).1.length=s.1.length:=by intro mk;induction mk with|nil=>intro s;rfl|cons x mk a=>intro s;rw[ZaS,a];unfold bMk;split<;>simp
 unfold bMks;rw[key];simp
theorem Qlz(h:ys[i]?=some y):(ys.take (i+1)).foldl (bEd left v) s=bEd left v ((ys.take i).foldl (bEd left v) s) y:=by rw[Za6,h,Option.toList,Zba];rfl
theorem Qnt(n)(x):(List.replicate n [AV.int .i64 x]).flatten=ZI (List.replicate n x):=by induction n with|zero=>rfl|succ n a=>rw[Za7,Zbw,a];rfl
theorem QlA(h:i<n):(List.replicate i (-1:Int)++List.replicate (n-i) 0).set i (-1)=List.replicate (i+1) (-1)++List.replicate (n-(i+1)) 0:=by rw[List.set_append_right _ _ (by simp),Zbv,ZbO,show n-i=(n-(i+1))+1 by omega,Za7,ZbV,List.replicate_succ',ZaQ];rfl
theorem QbN{l}{i}{x}:(ZI l).set i (.int .i64 x)=ZI (l.set i x):=by simp[ZI,List.map_set]
def Bd(s:QS):Prop:=∀x,s.1.getD x 0<=s.2.length
theorem Qv9(h:Bd s):Bd (bEd left v s y):=by
 unfold bEd;split
 ·intro x;have h1:=h x;have a:=h v;show(s.1.set y (s.1.getD v 0+1)).getD x 0<=((s.2++[y]).length:Int);exact bAheo
 exact h
theorem Qwa(h:Bd s):Bd (bMk left s x):=by
 unfold bMk;split
 ·intro z;have h1:=h z;show(s.1.set x 0).getD z 0<=((s.2++[x]).length:Int);exact bAheo
 exact h
theorem Qfw:∀(ys:List Nat)(s:QS),Bd s->Bd (ys.foldl (bEd left v) s)|[],s,h=>h|y::ys,s,h=>Qfw ys _ (Qv9 h)
theorem QuM(mk):Bd (bMks n mk left):=by
 have key:∀(mk:List Nat)(s:QS),Bd s->Bd (mk.foldl (bMk left) s):=by intro mk;induction mk with|nil=>intro s h;exact h|cons x mk a=>intro s h;exact a _ (Qwa h)
 refine key mk _ fun x=>?_;simp only[Zah,List.getElem?_replicate];split<;>simp
theorem Qwb(n)(left)(mk):(bMks n mk left).2.length<=mk.length:=by
 have key:∀(mk:List Nat)(s:QS),(mk.foldl (bMk left) s).2.length<=s.2.length+mk.length:=by intro mk;induction mk with|nil=>intro s;simp|cons x mk a=>intro s;rw[ZaS];refine ZaC (a _) ?_;unfold bMk;split<;>simp<;>omega
 have:=key mk (List.replicate n (-1),[]);unfold bMks;simpa using this
theorem QbG{x}(h:l[i]?=some x):(ZI l)[i]?=some (.int .i64 x):=by simp[ZI,h]
theorem Qbo(h:i<l.length):(ZI l)[i]?=some (.int .i64 (l.getD i 0)):=by simp[ZI,h]
theorem _root_.Go.AM.au5{p:Prop}(h:p:=by repeat'(first|exact ZcD|(refine Zct ?_;first|rfl|(simp only[noRef,noRefs,SD.Qaa,SD.Qab,SD.Qaf,SD.Qag,SD.Qah,SD.Qai,SD.Qaj,SD.Qam,SD.Qan,SD.Qar,SE.Qal,SE.Qao,SO.QaD,SO.QaP,SO.Qaz,Zad,Zae,Zai];done))|exact ZcR rfl|exact ZcJ|exact(True.intro:RnM _ _ _ [] [])|refine ZcK ?_ ?_|(refine Zcs ?_;first|rfl|(simp only[noRef,noRefs,SD.Qaa,SD.Qab,SD.Qaf,SD.Qag,SD.Qah,SD.Qai,SD.Qaj,SD.Qam,SD.Qan,SD.Qar,SE.Qal,SE.Qao,SO.QaD,SO.QaP,SO.Qaz,Zad,Zae,Zai];done))|exact Rn.x1 rfl rfl|exact Rn.x2 rfl rfl|exact Rn.x3 rfl rfl|exact Rn.x4 rfl rfl|exact Rn.x5 rfl|exact Rn.x6 rfl|exact Rn.x7 rfl|refine ZcF rfl rfl ?_|refine ZcE rfl rfl rfl ?_ ?_|refine ZcG rfl rfl rfl ?_ ?_|refine ZcH rfl rfl ?_ ?_|refine ZcI rfl rfl ?_ ?_)):p:=h
theorem _root_.Go.AM.au6{p:Prop}(h:p:=by repeat(first|exact ZcB|(refine ZcC ?_ ?_;·(first|exact Zcr|exact Rn.x1 rfl rfl|exact Rn.x2 rfl rfl|exact Rn.x3 rfl rfl|exact Rn.x4 rfl rfl|exact Rn.x5 rfl|exact Rn.x6 rfl|exact Rn.x7 rfl|(refine ZcN ?_ ?_;(first|rfl|(rw[ZaF];rfl));(first|rfl|(simp only[noRef,noRefs,SD.Qaa,SD.Qab,SD.Qaf,SD.Qag,SD.Qah,SD.Qai,SD.Qaj,SD.Qam,SD.Qan,SD.Qar,SE.Qal,SE.Qao,SO.QaD,SO.QaP,SO.Qaz,Zad,Zae,Zai];done)))|(refine Rn.fn ?_ ?_<;>(repeat'(first|exact ZcJ|refine ZcK ?_ ?_|exact Zcs rfl|exact Rn.x6 rfl|exact Rn.x2 rfl rfl|exact Rn.x5 rfl|exact Rn.x1 rfl rfl))))))):p:=h
theorem dist53(a)(u)(l)(hin:InN a.n a.es a.ms)(hnd:a.ms.Nodup)(hl:l.length=a.n)(hn:a.n<=4096)(hel:a.es.length<=1000000)(hml:a.ms.length<=1000000):HSpec Tryz.prog 122 [pv a u l] .e (.sl 80 0 0 a.n 1) (hp [(80,.cells 0 (ZI (pDist a.n a.es a.ms (lf l))))]):=by
 refine ZcV 100 (Ok s122) rfl ?_;have hn':(a.n:Int)<=140737488355328:=by omega
 have hn8:(8:Int)*a.n<=140737488355328:=by omega
 unfold s122;refine Zc7 (Zc9 hn' hn8 @Qnt) ?_;refine Qas 100 (fun i:Nat=>[(0,pv a u l),(3,.sl 80 0 0 a.n 1),(18,.int .i64 a.n),(19,.int .i64 i)]) (fun i=>[(80,.cells 0 (ZI (List.replicate i (-1)++List.replicate (a.n-i) 0)))]) (fun i=>i<=a.n) (fun i=>a.n-i) 0 0 120 (fun _:Unit=>[(0,pv a u l),(3,.sl 80 0 0 a.n 1)]) (fun _=>[(80,.cells 0 (ZI (List.replicate a.n (-1))))]) (fun _=>True) ?_ (Zaj _) ?_ ?_;·exact⟨[(80,.blk 106 0)],rfl,au0,au5,au6⟩
 ·rintro i hi;by_cases hlt:i<a.n
  ·have h1:i+1<=i+(a.n-i):=by omega
   refine Zc7 (Zda hlt h1 @QbN (QlA hlt)) ?_;exact⟨i+1,by omega,by omega,⟨[(80,.blk 80 0)],rfl,au0,au5,au6⟩⟩
  ·have e:i=a.n:=by omega
   subst e;have e2:List.replicate a.n (-1:Int)++List.replicate (a.n-a.n) 0=List.replicate a.n (-1):=by simp
   refine Zc7 hlt ?_;refine⟨(),?_⟩;rw[e2];exact⟨[(80,.blk 80 0)],rfl,au0,au5,au6⟩
 rintro _ _;refine Zc6 ?_;refine Qas 140 (fun i:Nat=>[(0,pv a u l),(3,.sl 80 0 0 a.n 1),(5,.sl 81 0 0 (bMks a.n (a.ms.take i) (lf l)).2.length 1),(30,ZN a.ms),(31,.int .i64 a.ms.length),(32,.int .i64 i)]) (fun i=>[(80,.cells 0 (ZI (bMks a.n (a.ms.take i) (lf l)).1)),(81,.cells 0 (ZI (nz (bMks a.n (a.ms.take i) (lf l)).2)))]) (fun i=>i<=a.ms.length) (fun i=>a.ms.length-i) 0 2 160 (fun _:Unit=>[(0,pv a u l),(3,.sl 80 0 0 a.n 1),(5,.sl 81 0 0 (bMks a.n a.ms (lf l)).2.length 1)]) (fun _=>[(80,.cells 0 (ZI (bMks a.n a.ms (lf l)).1)),(81,.cells 0 (ZI (nz (bMks a.n a.ms (lf l)).2)))]) (fun _=>True) ?_ (Zaj _) ?_ ?_;·exact⟨[(80,.blk 80 0),(81,.nil)],rfl,au0,au5,au6⟩
 ·rintro i hi;by_cases hlt:i<a.ms.length
  ·obtain⟨x,hx⟩:=Qak hlt;have hxn:=hin.2 x (Zaa hx);have hs:=QrN (n:=a.n) (left:=lf l) hx;have hq:=Qwb a.n (lf l) (a.ms.take i);rw[Zap]at hq;have hlen:=QtB a.n (a.ms.take i) (lf l);generalize bMks a.n (a.ms.take i) (lf l)=s at*;have h1:x+1<=s.1.length:=by omega
   have hxl:x<l.length:=by omega
   by_cases h0:lf l x=true;·rw[bMk,if_pos h0]at hs;refine Zc7 (Zdd hlt (QaI hx) hxn (Qba hxl) h0 @QbN h1) ?_;refine⟨i+1,by omega,by omega,?_⟩;rw[hs,QaM,QaB,Zag];exact⟨[(80,.blk 80 0),(81,.blk 81 1)],rfl,au0,au5,au6⟩
   ·rw[bMk,if_neg h0]at hs;rw[Zam]at h0;refine Zc7 (Zdb hlt (QaI hx) hxn (Qba hxl) h0) ?_;refine⟨i+1,by omega,by omega,?_⟩;rw[hs];exact⟨[(80,.blk 80 0),(81,.blk 81 0)],rfl,au0,au5,au6⟩
  ·have e:i=a.ms.length:=by omega
   subst e;refine Zc7 hlt ?_;refine⟨(),?_⟩;exact⟨[(80,.blk 80 0),(81,.blk 81 0)],rfl,au0,au5,au6⟩
 rintro _ _;refine Zc6 ?_;have hb0:=Qfs (left:=lf l) hin hnd;have hd0:=QuM (n:=a.n) (left:=lf l) a.ms;have hfin:(bQ a.es (lf l) (a.n+1) 0 (bMks a.n a.ms (lf l))).1=pDist a.n a.es a.ms (lf l):=rfl;generalize bMks a.n a.ms (lf l)=s0 at*;refine Qas 180 (fun t:Nat×QS=>[(0,pv a u l),(3,.sl 80 0 0 a.n 1),(5,.sl 81 0 0 t.2.2.length 1),(8,.int .i64 t.1)]) (fun t=>[(80,.cells 0 (ZI t.2.1)),(81,.cells 0 (ZI (nz t.2.2)))]) (fun t=>t.1<=a.n/\BH a.n a.es a.ms (lf l) t.1 t.2/\Bd t.2/\bQ a.es (lf l) (a.n+1-t.1) t.1 t.2=bQ a.es (lf l) (a.n+1) 0 s0) (fun t=>a.n+1-t.1) (0,s0) 4 200 (fun _:Unit=>[(3,.sl 80 0 0 a.n 1)]) (fun _=>[(80,.cells 0 (ZI (pDist a.n a.es a.ms (lf l))))]) (fun _=>True) ?_ ⟨Zaj _,hb0,hd0,rfl⟩ ?_ ?_;·exact⟨[(80,.blk 80 0),(81,.blk 81 0)],rfl,au0,au5,au6⟩
 ·rintro⟨i,s⟩⟨hi,hbh,hbd,hq⟩;dsimp only at hi hbh hbd hq⊢;have hsl:=hbh.bi.cnt;have hlen:=hbh.bi.len;by_cases hlt:i<s.2.length
  ·obtain⟨v,hv⟩:=Qak hlt;have hvn:=((hbh.bi.inl v).1 (Zaa hv)).1;have hin':i<a.n:=by omega
   have hq':bQ a.es (lf l) (a.n+1-(i+1)) (i+1) (bRow a.es (lf l) v s)=bQ a.es (lf l) (a.n+1) 0 s0:=by rw[<-hq,show a.n+1-i=(a.n+1-(i+1))+1 by omega];simp only[bQ,hv]
   have hbh':=hbh.step hin hv;have hrow:=fun ys(hys:∀y∈ys,∃e∈a.es,e.1=y/\e.2.2=v)=>BI.row (left:=lf l) (mk:=a.ms) hin (v:=v) (i:=i) ys s hys hbh.bi hv (hbh.near v hv) hbh.done;have hpl:=Qlx a.es v;refine Zc7 (Zc9 hlt (QaI hv) (QbG (nz_at hv))) ?_;have hpn:∀y∈preds a.es v,y<a.n:=fun y hy=>by obtain⟨e,he,h1,h2⟩:=Qd9.1 hy;have:=(hin.1 e he).1;omega
   by_cases hk:v∈keysR a.es
   ·refine QoN hk ?_;refine Zc6 ?_;refine Qas 220 (fun j:Nat=>[(65,ZN (preds a.es v)),(66,.int .i64 (preds a.es v).length),(0,pv a u l),(3,.sl 80 0 0 a.n 1),(5,.sl 81 0 0 (((preds a.es v).take j).foldl (bEd (lf l) v) s).2.length 1),(8,.int .i64 i),(67,.int .i64 j)]) (fun j=>[(80,.cells 0 (ZI (((preds a.es v).take j).foldl (bEd (lf l) v) s).1)),(81,.cells 0 (ZI (nz (((preds a.es v).take j).foldl (bEd (lf l) v) s).2)))]) (fun j=>j<=(preds a.es v).length) (fun j=>(preds a.es v).length-j) 0 6 240 (fun _:Unit=>[(0,pv a u l),(3,.sl 80 0 0 a.n 1),(5,.sl 81 0 0 (bRow a.es (lf l) v s).2.length 1),(8,.int .i64 i)]) (fun _=>[(80,.cells 0 (ZI (bRow a.es (lf l) v s).1)),(81,.cells 0 (ZI (nz (bRow a.es (lf l) v s).2)))]) (fun _=>True) ?_ (Zaj _) ?_ ?_;·exact⟨[(80,.blk 80 0),(81,.blk 81 0)],rfl,au0,au5,au6⟩
    ·exact bLdqA
    exact b3y7C
   ·refine Qnm hk ?_;have hp0:=Qel hk;refine Zc6 ?_;refine Qas 220 (fun j:Nat=>[(65,ZN (preds a.es v)),(66,.int .i64 (preds a.es v).length),(0,pv a u l),(3,.sl 80 0 0 a.n 1),(5,.sl 81 0 0 (((preds a.es v).take j).foldl (bEd (lf l) v) s).2.length 1),(8,.int .i64 i),(67,.int .i64 j)]) (fun j=>[(80,.cells 0 (ZI (((preds a.es v).take j).foldl (bEd (lf l) v) s).1)),(81,.cells 0 (ZI (nz (((preds a.es v).take j).foldl (bEd (lf l) v) s).2)))]) (fun j=>j<=(preds a.es v).length) (fun j=>(preds a.es v).length-j) 0 6 240 (fun _:Unit=>[(0,pv a u l),(3,.sl 80 0 0 a.n 1),(5,.sl 81 0 0 (bRow a.es (lf l) v s).2.length 1),(8,.int .i64 i)]) (fun _=>[(80,.cells 0 (ZI (bRow a.es (lf l) v s).1)),(81,.cells 0 (ZI (nz (bRow a.es (lf l) v s).2)))]) (fun _=>True) ?_ (Zaj _) ?_ ?_;·exact⟨[(80,.blk 80 0),(81,.blk 81 0)],rfl,ZcA,au5,ZcC (by rw[hp0];exact Rn.nilK) (ZcC (by rw[hp0];exact Zcs rfl) au6)⟩
    ·exact bLdqA
    exact b3y7C
  ·have hv:s.2[i]?=none:=ZaG (by omega);have hqf:s.1=pDist a.n a.es a.ms (lf l):=by rw[<-hfin,<-hq,show a.n+1-i=(a.n-i)+1 by omega];simp only[bQ,hv]
   refine Zc7 hlt ?_;refine⟨(),?_⟩;rw[hqf];exact⟨[(80,.blk 80 0)],rfl,au0,au5,au6⟩
 rintro _ _;refine Zc6 ?_;exact⟨.inr trivial,_,rfl,⟨[(80,.blk 80 0)],rfl,au0,au5,au6⟩⟩
def bkC(rank:Int)(x:Nat):List AV:=[.int .i64 (x:Int),.int .i64 rank,.int .i64 3,.int .i64 (-1)]
theorem Qay(rank)(l:List Nat):noRefs (l.flatMap (bkC rank))=true:=Qa6 (fun x=>rfl) l
def lsC(rank:Int)(p:Nat×Nat):List AV:=[.int .i64 (p.1:Int),.int .i64 rank,.int .i64 2,.int .i64 (p.2:Int)]
theorem Qap(rank)(l:List (Nat×Nat)):noRefs (l.flatMap (lsC rank))=true:=Qa6 (fun x=>rfl) l
theorem ls_rm(rank)(l):l.flatMap (lsC rank)=(lostF rank l).flatMap rmC:=by unfold lostF;rw[List.flatMap_map];rfl
theorem QrO(rank)(l:List (Nat×Nat)):(l.flatMap (lsC rank)).length=l.length*4:=Qbg (f:=lsC rank) (k:=4) (fun _=>rfl) l
theorem QrP{rank}{l:List (Nat×Nat)}(h:l[i]?=some p):(l.flatMap (lsC rank))[i*4]?=some (.int .i64 (p.1:Int)):=by
 have:=Qbi (f:=lsC rank) (k:=4) (fun _=>rfl) h;have a:((l.flatMap (lsC rank)).drop (i*4))[0]?=some (.int .i64 (p.1:Int)):=by rw[this];rfl
 simpa using a
theorem QqC{e}(h:es[i]?=some e):pLost (es.take (i+1)) left unc=pLs left unc (pLost (es.take i) left unc) e:=by unfold pLost;rw[Za6,h,Option.toList,Zba];rfl
theorem QrQ(es)(left)(unc):(pLost es left unc).length<=es.length:=by
 have key:∀(es:List Ed)(o:List (Nat×Nat)),(es.foldl (pLs left unc) o).length<=o.length+es.length:=by intro es;induction es with|nil=>intro o;simp|cons e es a=>intro o;rw[ZaS];refine ZaC (a _) ?_;unfold pLs;(repeat' split)<;>(try simp)<;>(try omega)
 have:=key es [];unfold pLost;simpa using this
theorem _root_.Go.AM.au7{p:Prop}(h:p:=by repeat'(first|exact ZcD|(refine Zct ?_;first|rfl|(simp only[noRef,noRefs,SD.Qaa,SD.Qab,SD.Qaf,SD.Qag,SD.Qah,SD.Qai,SD.Qaj,SD.Qam,SD.Qan,SD.Qar,SE.Qal,SE.Qao,SE.Qap,SE.Qay,SO.QaD,SO.QaP,SO.Qaz,Zad,Zae,Zai];done))|exact ZcR rfl|exact ZcJ|exact(True.intro:RnM _ _ _ [] [])|refine ZcK ?_ ?_|(refine Zcs ?_;first|rfl|(simp only[noRef,noRefs,SD.Qaa,SD.Qab,SD.Qaf,SD.Qag,SD.Qah,SD.Qai,SD.Qaj,SD.Qam,SD.Qan,SD.Qar,SE.Qal,SE.Qao,SE.Qap,SE.Qay,SO.QaD,SO.QaP,SO.Qaz,Zad,Zae,Zai];done))|exact Rn.x1 rfl rfl|exact Rn.x2 rfl rfl|exact Rn.x3 rfl rfl|exact Rn.x4 rfl rfl|exact Rn.x5 rfl|exact Rn.x6 rfl|exact Rn.x7 rfl|refine ZcF rfl rfl ?_|refine ZcE rfl rfl rfl ?_ ?_|refine ZcG rfl rfl rfl ?_ ?_|refine ZcH rfl rfl ?_ ?_|refine ZcI rfl rfl ?_ ?_)):p:=h
theorem _root_.Go.AM.au8{p:Prop}(h:p:=by repeat(first|exact ZcB|(refine ZcC ?_ ?_;·(first|exact Zcr|exact Rn.x1 rfl rfl|exact Rn.x2 rfl rfl|exact Rn.x3 rfl rfl|exact Rn.x4 rfl rfl|exact Rn.x5 rfl|exact Rn.x6 rfl|exact Rn.x7 rfl|(refine ZcN ?_ ?_;(first|rfl|(rw[ZaF];rfl));(first|rfl|(simp only[noRef,noRefs,SD.Qaa,SD.Qab,SD.Qaf,SD.Qag,SD.Qah,SD.Qai,SD.Qaj,SD.Qam,SD.Qan,SD.Qar,SE.Qal,SE.Qao,SE.Qap,SE.Qay,SO.QaD,SO.QaP,SO.Qaz,Zad,Zae,Zai];done)))|(refine Rn.fn ?_ ?_<;>(repeat'(first|exact ZcJ|refine ZcK ?_ ?_|exact Zcs rfl|exact Rn.x6 rfl|exact Rn.x2 rfl rfl|exact Rn.x5 rfl|exact Rn.x1 rfl rfl))))))):p:=h
theorem lost47(a:Aut)(u)(l)(rank)(hes:∀e∈a.es,e.1<a.n/\e.2.2<a.n)(hl:l.length=a.n)(hel:a.es.length<=1000000)(hul:u.length<=1000000):HSpec Tryz.prog 176 [pv a u l,.int .i64 rank] .e (.sl 80 0 0 (lostF rank (pLost a.es (lf l) u)).length 4) (hp [(80,.cells 0 ((lostF rank (pLost a.es (lf l) u)).flatMap rmC))]):=by
 rw[<-ls_rm,show(lostF rank (pLost a.es (lf l) u)).length=(pLost a.es (lf l) u).length by unfold lostF;rw[Zax]];refine ZcV 100 (Ok s176) rfl ?_;unfold s176;refine Zc6 ?_;refine Qas 100 (fun i:Nat=>[(0,pv a u l),(1,.int .i64 rank),(5,.sl 80 0 0 (pLost (a.es.take i) (lf l) u).length 4),(13,egsN a.es),(14,.int .i64 a.es.length),(15,.int .i64 i)]) (fun i=>[(80,.cells 0 ((pLost (a.es.take i) (lf l) u).flatMap (lsC rank)))]) (fun i=>i<=a.es.length) (fun i=>a.es.length-i) 0 0 120 (fun _:Unit=>[(5,.sl 80 0 0 (pLost a.es (lf l) u).length 4)]) (fun _=>[(80,.cells 0 ((pLost a.es (lf l) u).flatMap (lsC rank)))]) (fun _=>True) ?_ (Zaj _) ?_ ?_;·exact⟨[(80,.nil)],rfl,au0,au7,au8⟩
 ·rintro i hi;by_cases hlt:i<a.es.length
  ·obtain⟨e,he⟩:=Qak hlt;obtain⟨hfr,hto⟩:=hes e (Zaa he);have hst:=QqC (left:=lf l) (unc:=u) he;have hol:=QrQ (a.es.take i) (lf l) u;rw[Zap]at hol;generalize pLost (a.es.take i) (lf l) u=o at*;have hfl:e.1<l.length:=by omega
   have htl:e.2.2<l.length:=by omega
   by_cases h1:lf l e.1=true
   ·by_cases h2:lf l e.2.2=true
    ·have :bad (lf l) u e=false:=by simp[bad,h2]
     rw[pLs,if_neg (by simp[this])]at hst;refine Zc7 (Zde hlt (QaR he) hfr hto (Qba hfl) (Qba htl) h1 h2) ?_;refine⟨i+1,by omega,by omega,?_⟩;rw[hst];exact⟨[(80,.blk 80 0)],rfl,au0,au7,au8⟩
    ·rw[Zam]at h2;by_cases h3:u.contains e.2.1=true
     ·have hb:bad (lf l) u e=true:=by simp only[bad,h1,h2,h3];rfl
      rw[pLs,if_pos hb]at hst;refine Zc7 (Zde hlt (QaR he) hfr hto (Qba hfl) (Qba htl) h1 h2) ?_;have hc:=contains62 (nz u) e.2.1 (by simp;omega);rw[QbE,QeU,h3]at hc;refine cp hc ?_;by_cases h4:o.length=0
      ·have ho:o=[]:=Zb2 h4;have hlast:o.getLast?=none:=by rw[ho];rfl
       rw[hlast,if_neg (by simp)]at hst;have h6:¬(0:Int)<(o.length:Int):=by omega
       have hll:=QrO rank o;refine Zc7 (Zc8 h6 hll) ?_;refine⟨i+1,by omega,by omega,?_⟩;rw[hst,Zao,Zag];exact⟨[(80,.blk 80 1)],rfl,au0,au7,au8⟩
      ·obtain⟨p,hp⟩:=Qak (l:=o) (i:=o.length-1) (by omega);have hlast:o.getLast?=some p:=by rw[List.getLast?_eq_getElem?];exact hp
       rw[hlast]at hst;have h5:(o.length:Int)-1=((o.length-1:Nat):Int):=by omega
       have h6:(0:Int)<(o.length:Int):=by omega
       have h7:((o.length-1:Nat):Int)<(o.length:Int):=by omega
       by_cases h8:p.1=e.1;·rw[if_pos (by simpa using h8)]at hst;simp(disch:=first|omega|exact PairsOK.mk rfl|(simp only[lenW]<;>omega))only[h5,h6,h7,QrP hp,h8,wW,wV,simprocAttr];refine⟨i+1,by omega,by omega,?_⟩;rw[hst];exact⟨[(80,.blk 80 0)],rfl,au0,au7,au8⟩
       ·rw[if_neg (by simpa using h8)]at hst;have hll:=QrO rank o;simp(disch:=first|omega|exact PairsOK.mk rfl|(simp only[lenW]<;>omega))only[h5,h6,h7,QrP hp,h8,hll,wW,wV,simprocAttr];refine⟨i+1,by omega,by omega,?_⟩;rw[hst,Zao,Zag];exact⟨[(80,.blk 80 1)],rfl,au0,au7,au8⟩
     ·rw[Zam]at h3;have:bad (lf l) u e=false:=by simp only[bad,h1,h2,h3];rfl
      rw[pLs,if_neg (by simp[this])]at hst;refine Zc7 (Zde hlt (QaR he) hfr hto (Qba hfl) (Qba htl) h1 h2) ?_;have hc:=contains62 (nz u) e.2.1 (by simp;omega);rw[QbE,QeU,h3]at hc;refine cp hc ?_;refine Zc6 ?_;refine⟨i+1,by omega,by omega,?_⟩;rw[hst];exact⟨[(80,.blk 80 0)],rfl,au0,au7,au8⟩
   ·rw[Zam]at h1;have:bad (lf l) u e=false:=by simp[bad,h1]
    rw[pLs,if_neg (by simp[this])]at hst;refine Zc7 (Zdd hlt (QaR he) hfr hto (Qba hfl) (Qba htl) h1) ?_;refine⟨i+1,by omega,by omega,?_⟩;rw[hst];exact⟨[(80,.blk 80 0)],rfl,au0,au7,au8⟩
  ·have e:i=a.es.length:=by omega
   subst e;refine Zc7 hlt ?_;refine⟨(),?_⟩;exact⟨[(80,.blk 80 0)],rfl,au0,au7,au8⟩
 rintro _ _;refine Zc6 ?_;exact⟨.inr trivial,_,rfl,⟨[(80,.blk 80 0)],rfl,au0,au7,au8⟩⟩
def blkP(left:Nat->Bool)(d:List Int)(n:Nat):List Nat:=(List.range n).filter fun i=>left i&&decide (d.getD i 0<0)
theorem Qwc(rank)(l:List Nat):(l.flatMap (bkC rank)).length=l.length*4:=Qbg (f:=bkC rank) (k:=4) (fun _=>rfl) l
theorem QpA(left)(rank)(d):blkF left rank d=(blkP left d d.length).map fun x=>⟨x,rank,3,-1⟩:=by unfold blkF blkP;generalize List.range d.length=r;induction r with|nil=>rfl|cons x r a=>
 rw[ZbJ,ZbT];by_cases h:(left x&&decide (d.getD x 0<0))=true;·rw[if_pos h,if_pos h,ZaL,<-a]
 rw[if_neg h,if_neg h,<-a]
theorem bk_rm(left)(rank)(d):(blkP left d d.length).flatMap (bkC rank)=(blkF left rank d).flatMap rmC:=by rw[QpA,List.flatMap_map];rfl
theorem QtC(left)(d)(n):(blkP left d n).length<=n:=by unfold blkP;exact ZaC (Za4 _ _) (by simp)
theorem QrR:blkP left d (i+1)=blkP left d i++if left i&&decide (d.getD i 0<0)then[i]else[]:=by
 unfold blkP;rw[ZaK,Zbj];congr 1;by_cases h:(left i&&decide (d.getD i 0<0))=true;·rw[if_pos h,ZbT,if_pos h];rfl
 rw[if_neg h,ZbT,if_neg h];rfl
theorem QlB(hin:InN n es mk)(a:mk.Nodup):(pDist n es mk left).length=n:=(Qjj hin (n+1) 0 _ (Qfs hin a) (by omega)).1
theorem blocked48(a)(u)(l)(rank)(hin:InN a.n a.es a.ms)(h:a.ms.Nodup)(s:l.length=a.n)(v:a.n<=4096)(n:a.es.length<=1000000)(m:a.ms.length<=1000000):HSpec Tryz.prog 177 [pv a u l,.int .i64 rank] .e (.sl 81 0 0 (blkF (lf l) rank (pDist a.n a.es a.ms (lf l))).length 4) (hp [(81,.cells 0 ((blkF (lf l) rank (pDist a.n a.es a.ms (lf l))).flatMap rmC))]):=by
 have q:=QlB (left:=lf l) hin h;have t:=dist53 a u l hin h s v n m;generalize pDist a.n a.es a.ms (lf l)=d at*;rw[<-bk_rm,QpA,Zax,q];refine ZcV 100 (Ok s177) rfl ?_;unfold s177;refine Zc6 ?_;refine ch (ZcU (b:=80) (by(try simp only[noRefs,Qal,Qao,Qaa,Qam,Qag,Qan,Qap,Qay,Qai,noRef,Zae,Zad])<;>rfl) t (by repeat(first|exact Fresh.e|exact Zcw (by assumption) (by omega)|refine Zcx ?_ (by omega) (by omega))) rfl) ?_;refine Zc6 ?_;refine Qas 110 (fun i:Nat=>[(0,pv a u l),(1,.int .i64 rank),(5,.sl 81 0 0 (blkP (lf l) d i).length 4),(9,.sl 80 0 0 a.n 1),(10,.int .i64 a.n),(11,.int .i64 i)]) (fun i=>[(80,.cells 0 (ZI d)),(81,.cells 0 ((blkP (lf l) d i).flatMap (bkC rank)))]) (fun i=>i<=a.n) (fun i=>a.n-i) 0 0 120 (fun _:Unit=>[(5,.sl 81 0 0 (blkP (lf l) d a.n).length 4)]) (fun _=>[(81,.cells 0 ((blkP (lf l) d a.n).flatMap (bkC rank)))]) (fun _=>True) ?_ (Zaj _) ?_ ?_;·exact⟨[(80,.blk 80 0),(81,.nil)],rfl,au0,au7,au8⟩
 ·rintro i hi;by_cases c:i<a.n
  ·have b:=QrR (left:=lf l) (d:=d) (i:=i);have w:=QtC (lf l) d i;generalize blkP (lf l) d i=o at*;have g:i<l.length:=by omega
   have f:i<d.length:=by omega
   have p:=Qwc rank o;by_cases h1:lf l i=true
   ·by_cases k:d.getD i 0<0;·rw[if_pos (by rw[h1,decide_eq_true k];rfl)]at b;refine Zc7 (Zdc c (Qbo f) (Qba g) h1 k p) ?_;refine⟨i+1,by omega,by omega,?_⟩;rw[b,Zao,Zag];exact⟨[(80,.blk 80 0),(81,.blk 81 1)],rfl,au0,au7,au8⟩
    rw[if_neg (by rw[h1,decide_eq_false k];decide),Zas]at b;refine Zc7 (Zdb c (Qbo f) (Qba g) h1 k) ?_;exact bFgLS
   rw[if_neg (by simp[h1]),Zas]at b;rw[Zam]at h1;refine Zc7 (Zda c (Qbo f) (Qba g) h1) ?_;exact bFgLS
  have e:i=a.n:=by omega
  subst e;refine Zc7 c ?_;refine⟨(),?_⟩;exact⟨[(81,.blk 81 0)],rfl,au0,au7,au8⟩
 rintro _ _;refine Zc6 ?_;exact⟨.inr trivial,_,rfl,⟨[(81,.blk 81 0)],rfl,au0,au7,au8⟩⟩
theorem QgT(l:List Rm):(l.flatMap rmC).length=l.length*4:=Qbg (f:=rmC) (k:=4) (fun _=>rfl) l
theorem QuN(l:List Rm):flatVs (l.flatMap rmC)=true:=by induction l with|nil=>rfl|cons x l a=>rw[Zaz];simp only[rmC,ZaW,ZaT,flatVs,flatV,Zai];exact a
theorem QcK(l):flatVs (ZI l)=true:=by induction l with|nil=>rfl|cons x l a=>simp only[ZI,ZaL,flatVs,flatV,Zai];exact a
theorem FrzTo.all{b g len sz}(c:h.get b=some (.cells g cs))(a:cs.length=len*sz):FrzTo h (.sl b g 0 len sz) (.fsl cs len sz):=by refine FrzTo.sl c (by omega) ?_;rw[Za5,<-a,Zan];exact Zcz _
theorem frzP{l:LB}(d:h.get 70=some (.cells 0 (pblk a u)))(c:h.get 71=some (.map 0 (mapF .i64 (backF a.es) (keysR a.es))))(b:h.get 72=some (.cells 0 (bls l)))(f:l.length=a.n):FrzTo h (.ptr 70 0 0) (pv a u l):=by refine ZcP d ?_;rw[Za5];exact ZcT (Zcy _) (ZcT (Zcy _) (ZcT (Zcy _) (ZcT (Zcy _) (ZcT (Zcy _) (ZcT (FrzTo.mapF c fun x _=>Zcy _) (ZcT (FrzTo.all b (by rw[Qkd,f,ZbY])) ZcS))))))
theorem next35(a)(u)(l)(rank)(all)(hin:InN a.n a.es a.ms)(g:a.ms.Nodup)(h:l.length=a.n)(i:a.n<=4096)(b:a.es.length<=1000000)(f:a.ms.length<=1000000)(d:u.length<=1000000):HSpec Tryz.prog 119 [pv a u l,.int .i64 rank,.bool all] .e (.sl 82 0 0 (pNext a.n a.es a.ms (lf l) u rank all).length 4) (hp [(82,.cells 0 ((pNext a.n a.es a.ms (lf l) u rank all).flatMap rmC))]):=by
 have h1:=lost47 a u l rank (fun e he=>hin.1 e he) h b d;have k:=blocked48 a u l rank hin g h i b f;have hlen:(lostF rank (pLost a.es (lf l) u)).length=(pLost a.es (lf l) u).length:=by unfold lostF;rw[Zax]
 unfold pNext;refine ZcV 100 (Ok s119) rfl ?_;unfold s119;refine Zc6 ?_;refine ch (ZcU (b:=80) (by(try simp only[noRefs,Qal,Qao,Qaa,Qam,Qag,Qan,Qap,Qai,noRef,Zae,Zad])<;>rfl) h1 (by repeat(first|exact Fresh.e|exact Zcw (by assumption) (by omega)|refine Zcx ?_ (by omega) (by omega))) rfl) ?_;rw[hlen];by_cases c:0<(pLost a.es (lf l) u).length;·rw[if_pos (by simp[c])];rw[hlen];generalize pLost a.es (lf l) u=o at*;refine Zc7 c ?_;exact⟨.inr trivial,_,rfl,⟨[(82,.blk 80 0)],rfl,au0,au7,au8⟩⟩
 cases all with|false=>rw[if_pos (by simp)];rw[hlen];generalize pLost a.es (lf l) u=o at*;refine Zc7 c ?_;exact⟨.inr trivial,_,rfl,⟨[(82,.blk 80 0)],rfl,au0,au7,au8⟩⟩|true=>rw[if_neg (by simp[c])];generalize pLost a.es (lf l) u=o at*;refine Zc7 c ?_;refine ch (ZcU (b:=81) (by(try simp only[noRefs,Qal,Qao,Qaa,Qam,Qag,Qan,Qap,Qai,noRef,Zae,Zad])<;>rfl) k (by repeat(first|exact Fresh.e|exact Zcw (by assumption) (by omega)|refine Zcx ?_ (by omega) (by omega))) rfl) ?_;generalize blkF (lf l) rank (pDist a.n a.es a.ms (lf l))=q at*;refine Zc6 ?_;exact⟨.inr trivial,_,rfl,⟨[(82,.blk 81 0)],rfl,au0,au7,au8⟩⟩
theorem WfA.auOk(h:WfA a)(c:a.es.length<=1000000):AuOk (au a):=by
 have g:a.al.length<=32:=Qa1 32 a.al (by rw[ZaN];exact h.al.imp fun h=>by omega) h.al5;have d:a.ms.length<=a.n:=Qa1 a.n a.ms h.nd h.msn;have f:=h.n5;refine{len:=?_,all:=?_,fr:=?_,to:=?_,ev:=?_,up:=?_,alS:=SetOk.nz (n:=32) (fun x b=>by have:=h.al5 x b;omega) h.al,msS:=SetOk.nz h.msn h.ms,mslen:=?_,n0:=?_,nm:=?_};·show(a.es.map eg).length<=_;simp;omega
 ·show(nz a.al).length<=_;simp;omega
 ·intro e he;obtain⟨x,b,rfl⟩:=Zaq.1 he;have:=h.esn x b;show(0:Int)<=x.1/\(x.1:Int)<a.n;omega
 ·intro e he;obtain⟨x,b,rfl⟩:=Zaq.1 he;have:=h.esn x b;show(0:Int)<=x.2.2/\(x.2.2:Int)<a.n;omega
 ·intro e he;obtain⟨x,b,rfl⟩:=Zaq.1 he;exact Zaq.2 ⟨x.2.1,h.ev x b,rfl⟩
 ·show(a.es.map eg).Pairwise _;rw[Zbr];refine h.es.imp fun h=>?_;show(_:Int)<_\/(_:Int)=_/\(_:Int)<_;simp only[eg];omega
 ·show(nz a.ms).length<=_;simp;omega
 ·show(0:Int)<=(a.n:Int);omega
 show(a.n:Int)<=4096;omega
structure QOk(a:Aut)(f u:List Nat):Prop where
 fS:f.Pairwise (·<·)fn:∀x∈f,x<a.n
 uS:u.Pairwise (·<·)un:∀x∈u,x<32
theorem QbZ{l:List Nat}(h:l.Pairwise (·<·))(a:∀x∈l,x<n):l.length<=n:=Qa1 n l (by rw[ZaN];exact h.imp fun h=>by omega) a
theorem WfA.elK(h:WfA a)(g:∀x∈a.al,x<k):a.es.length<=a.n*k:=by
 have f:∀e∈a.es,e.2.1<k:=fun e he=>g _ (h.ev e he);have i:(a.es.map fun e=>e.1*k+e.2.1).Pairwise (·<·):=by
  rw[Zbr];refine h.es.imp_of_mem fun{x y}b l d=>?_;have h1:=f x b;rcases d with c|⟨c,m⟩;·have :=Zbe k (show x.1+1<=y.1 from c);rw[Zbn]at this;omega
  rw[c];omega
 have:=QbZ i (n:=a.n*k) fun x b=>by obtain⟨e,he,rfl⟩:=Zaq.1 b;have h1:=f e he;have:=Zbe k (show e.1+1<=a.n from(h.esn e he).1);rw[Zbn]at this;show e.1*k+e.2.1<_;omega
 rwa[Zax]at this
theorem WfA.el1(h:WfA a):a.es.length<=131072:=by have h1:=WfA.elK h h.al5;have b:=Zbe 32 h.n5;omega
end Go.AM.SE
namespace Go.AM
variable{P:Program}
end Go.AM
namespace Go.AM
variable{P:Program}
theorem HSpec.empty{f sz}{d}{h h'}{v}(h1:HSpec P f (.nilsl::d) h v h')(g:HSpec P f (.nsl::d) h v h'):HSpec P f (.fsl [] 0 sz::d) h v h':=by
 obtain⟨hc,h1⟩:=h1;obtain⟨_,g⟩:=g;refine⟨hc,fun c w b H l=>?_⟩;simp only[VRels]at l;obtain⟨u,us,e,k,i⟩:=l;simp only[VRel]at k;rcases k with⟨⟨a,rfl⟩,_⟩|⟨m,off,cap,C,_,_,rfl,_⟩;·cases a with|none=>exact h1 c w b H (by rw[e];simp only[VRels];exact⟨_,_,rfl,by simp[VRel],i⟩)|some a=>exact g c w b H (by rw[e];simp only[VRels];exact⟨_,_,rfl,by simp[VRel],i⟩)
 exact g c w b H (by rw[e];simp only[VRels];exact⟨_,_,rfl,by simp[VRel],i⟩)
end Go.AM
namespace Go.AM
variable{v:AV}{h:Heap}{k:IntKind}{ks l:List Nat}{i m n:Nat}{f g:Nat->AV}{π:Nat->Option Src}{s:Nat->Src}{x:Src}
theorem Qju:∀{A B:List (Nat×Src)},srcNew x A=true->srcNew x B=true->srcNew x (A++B)=true|[],B,_,h=>h|(j,t)::A,B,h1,a=>by simp only[srcNew,Zac]at h1;rw[ZaW];simp only[srcNew,Zac];exact⟨h1.1,Qju h1.2 a⟩
theorem QdS{f}(m:okPs 0 (psL s ks) (rowsL f ks)=true):∀{A:List (Nat×Src)}{L:HL},okPs 0 A L=true->(∀p∈A,p.1<300)->(∀p∈A,∀b g,p.2=.blk b g->∀k∈ks,∀a i,s k=.blk a i->b≠a)->okPs 0 (A++psL s ks) (L++rowsL f ks)=true
 |[],[],_,_,_=>m|[],_::_,h,_,_=>by simp[okPs]at h|_::_,[],h,_,_=>by simp[okPs]at h|(b,t)::A,(a,x)::L,h,n,l=>by
  simp only[okPs,Zac,Zbo]at h;obtain⟨⟨⟨⟨h1,y⟩,c⟩,w⟩,v⟩:=h;rw[ZaW,ZaW];simp only[okPs,Zac,Zbo];refine⟨⟨⟨⟨h1,y⟩,?_⟩,?_⟩,QdS m v (fun p hp=>n p (by simp[hp])) (fun p hp=>l p (by simp[hp]))⟩
  ·rcases c with c|⟨c,o⟩;·exact .inl c
   refine .inr ⟨c,Qju o ?_⟩;cases e:t with|nil=>exact QfX|blk k g=>exact QcC fun j u a i q=>l (b,t) (by simp) k g e j u a i q
  rw[ZbR,w,Zai,ZaH];intro p hp;have o:=Qe9 hp;have z:=n (b,t) (by simp);have d:Nat.beq p.1 b=false:=by
   rw[ZaI];intro d;have:p.1=b:=by simpa using d
   omega
  simp[d]
theorem Qc0{k}(a:k∈ks):∀{A:List (Nat×Src)},(∀p∈A,p.1<300)->ow 0 (A++psL s ks) (300+k)=some (s k):=by
 have key:∀{A:List (Nat×Src)},(∀p∈A,p.1<300)->lkS (A++psL s ks) (300+k)=some (s k):=by intro A;induction A with|nil=>intro _;exact QiC a|cons p A b=>intro h;obtain⟨j,t⟩:=p;have:=h (j,t) (by simp);dsimp only at this;rw[ZaW];simp only[lkS];rw[if_neg (by omega)];exact b fun p hp=>h p (by simp[hp])
 grind[ow]
theorem Qdh:∀{ks:List Nat},(∀k∈ks,Rn m π h (f k) (g k))->RnL m π h (ks.map f) (ks.map g)|[],_=>trivial|j::ks,a=>⟨a j (by simp),Qdh fun k h=>a k (by simp[h])⟩
theorem RnO.agg{xs ys}(d:RnOL h xs ys):RnO h (.agg xs) (.agg ys):=fun _ c w v H a=>by simp only[VRel]at a⊢;obtain⟨b,rfl,a⟩:=a;exact⟨b,rfl,d.rels H a⟩
theorem RnO.nil{sz}:RnO h (.fsl [] 0 sz) .nilsl:=fun _ c w v H a=>by simp_all[VRel]
theorem Qjv(h:∀x∈l,f x=g x):mapF k f l=mapF k g l:=by simp_all[mapF]
theorem QlC(h:i<n):((List.range n).map f).set i v=(List.range n).map (updF f i v):=by
 apply ZbG;intro j;rw[List.getElem?_set];by_cases e:i=j;·subst e;rw[if_pos rfl,if_pos (by simpa using h)];simp[updF,h]
 grind[updF]
theorem QgU(h:i<n):((List.range n).map f)[i]?=some (f i):=by simp[h]
variable{P:Program}
theorem HSpec.freeze{f b g len sz}{args ds}{h1}(S:HSpec P f args h (.sl b g 0 len sz) h1)(N:h1.get b=some (.cells g ds))(hf:flatVs ds=true)(hl:len*sz<=ds.length)(X:Nat.blt b 1099511627775=true):HSpec P f args h (.fsl (ds.take (len*sz)) len sz) (h1.set b (.dead g)):=by
 have q:b<1099511627775:=by simp_all
 obtain⟨hc,hs⟩:=S;refine⟨hc,fun c w p H ha=>(hs c w p H ha).mono ?_⟩;rintro e K⟨cv,s,rfl,E,H',V⟩;have d:Live h1 b g:=⟨_,N,rfl,fun _=>by simp⟩;let z:Ctx (okc P):={s with F:=fun k=>s.F k\/∃base,s.ρ b g=some (.loc k base),O:=fun k=>s.O k/\¬∃base,s.ρ b g=some (.loc k base)};have i:∀k,(h1.set b (.dead g)).get k=if k=b then some (.dead g)else h1.get k:=fun k=>by
  by_cases e:k=b;·subst e;rw[QaA q,if_pos rfl]
  simp_all[QaH]
 have I:∀k y,Live (h1.set b (.dead g)) k y->k≠b/\Live h1 k y:=by
  rintro k y⟨x,a,Z,Q⟩;rw[i]at a;split at a;·grind
  rename_i e;exact⟨e,x,a,Z,Q⟩
 have E2:Evo c w z K:=⟨E.os,E.tape,E.output,E.size,E.shape,E.keep,E.rho,fun k a=>.inl (E.frz k a),fun k a=>by
  rcases a with a|⟨base,a⟩;·exact E.frzNew k a
  rcases E.own k (H'.owned d a)with h|h;·simp_all
  omega,fun k a=>E.own k a.1,E.base⟩;refine⟨cv,z,rfl,E2,⟨fun k a y=>?_,fun k x a y t=>?_,fun k x a=>?_,fun k y k' y' J base m l1 Y p1 p2=>H'.inj k y k' y' J base m (I _ _ l1).2 (I _ _ Y).2 p1 p2,fun k l L=>?_,fun k l=>?_,fun k L=>H'.inO k L.1⟩,?_⟩
 ·rw[i]at a;split at a;·cases a
  exact H'.fresh k a y
 ·rw[i]at a;split at a;·rename_i e;subst e;cases a;exact H'.later k _ N y t
  exact H'.later k x a y t
 ·rw[i]at a;split at a;·cases a;trivial
  rename_i e;refine Zco (c:=s) (c':=z) (w:=K) (w':=K) ⟨fun _ _ _ h=>h,fun _ h=>.inl h,fun _ _ _ h=>h,fun _ C _ U h=>⟨C,U,h,rfl⟩⟩ (fun J base Q hp=>?_) (H'.blk k x a);have F:Live h1 k x.gen:=⟨x,a,rfl,Q⟩;exact⟨⟨H'.owned F hp,fun⟨m,R⟩=>e (H'.inj _ _ _ _ _ _ _ F d hp R)⟩,rfl⟩
 ·rcases l with l|l;·exact H'.disj k l L.1
  grind
 ·rcases l with l|⟨base,l⟩;·exact H'.inF k l
  exact H'.inO k (H'.owned d l)
 simp only[VRel]at V;rcases V with⟨hp,rfl,_,rfl⟩|⟨J,base,o,cap,C,e,U,hp,rfl,hlc,hC,u⟩;·simp_all[VRel]
 obtain⟨C',e',fr',L,B,hfr,hbs,A⟩:=H'.here N hp;rw[hC]at B;cases B;have l:z.F J:=.inr ⟨base,hp⟩;by_cases h0:cap=0
 ·have T:len=0:=by omega
  subst T;simp only[VRel];simp_all
 obtain⟨rfl,hbd⟩:=u.resolve_left h0;have M:=VPre.flat (c':=z) (w':=K) hf A;have hp3:=VPre_take2 (len*sz) M;simp only[VRel];grind where VPre_take2{c:Ctx (okc P)}{w:World}:∀(n:Nat){xs:List AV}{G:List Value},VPre c w xs G->VPre c w (xs.take n) G|0,xs,G,h=>by simp[VPre]|n+1,[],G,h=>by simp[VPre]|n+1,x::xs,G,h=>by simp only[VPre]at h;obtain⟨v,O,rfl,h1,h2⟩:=h;simp only[Zbc,VPre];exact⟨v,O,rfl,h1,VPre_take2 n h2⟩
end Go.AM
namespace Go.AM
variable{P:Program}
variable{v:AV}{x:Blk}{h:Heap}{args xs ys:List AV}{vs:List Value}{b f g:Nat}{sf:SFn}{w:World}
def OnlyD(D:Nat->Prop)(args:List AV):Prop:=∀(ok:Okc)(c a:Ctx ok)(w:World)(d:List Value),(∀b g,D b->a.ρ b g=c.ρ b g)->(∀k,c.F k->a.F k)->VRels c w args d->VRels a w args d
theorem OnlyD.nil{D}:OnlyD D []:=fun _ c b w a _ _ h=>by grind[VRels]
theorem OnlyD.cons{D}{x}(i:OnlyD D [x])(h:OnlyD D xs):OnlyD D (x::xs):=fun ok c d w m h1 f b=>by simp only[VRels]at b⊢;obtain⟨v,a,rfl,n,k⟩:=b;have:=i ok c d w [v] h1 f (by simp only[VRels];simp_all);simp only[VRels]at this;obtain⟨v2,l,e,g,_⟩:=this;cases e;exact⟨v,a,rfl,g,h _ c d w a h1 f k⟩
theorem OnlyD.same{D}{x}(d:noRef x=true):OnlyD D [x]:=fun _ c k w i h1 h b=>by simp only[VRels]at b⊢;obtain⟨v,a,rfl,f,g⟩:=b;exact⟨v,a,rfl,Zcp h _ _ d f,g⟩
theorem OnlyD.sl{D}{off len sz}(m:D b):OnlyD D [.sl b g off len sz]:=fun _ c i w h h1 l d=>by simp only[VRels]at d⊢;obtain⟨v,a,rfl,k,f⟩:=d;refine⟨v,a,rfl,?_,f⟩;simp_all[VRel]
theorem OnlyD.ptr{D}{off}(m:D b):OnlyD D [.ptr b g off]:=fun _ c i w h h1 l d=>by simp only[VRels]at d⊢;obtain⟨v,a,rfl,k,f⟩:=d;refine⟨v,a,rfl,?_,f⟩;simp_all[VRel]
theorem OnlyD.fn{D}(m:OnlyD D xs)(l:OnlyD D ys):OnlyD D [.fn f xs ys]:=fun ok c d w q h1 h g=>by simp only[VRels]at g⊢;obtain⟨v,a,rfl,b,k⟩:=g;refine⟨v,a,rfl,?_,k⟩;simp only[VRel]at b⊢;obtain⟨p,o,rfl,i,n⟩:=b;exact⟨p,o,rfl,m ok c d w _ h1 h i,l ok c d w _ h1 h n⟩
theorem OnlyD.map{D}(m:D b):OnlyD D [.map b g]:=fun _ c i w h h1 l d=>by simp only[VRels]at d⊢;obtain⟨v,a,rfl,k,f⟩:=d;refine⟨v,a,rfl,?_,f⟩;simp_all[VRel]
def NoRefB:Blk->Prop|.cells _ cs=>noRefs cs=true|.map _ es=>∀e∈es,noRef e.1=true/\noRef e.2=true|.dead _=>True|_=>False
theorem VPre.noRef2{ok}{c c':Ctx ok}(a:∀k,c.F k->c'.F k)(b:noRefs xs=true)(h:VPre c w xs vs):VPre c' w xs vs:=VPre.noRef a _ _ b h
theorem MRel.noRef2{ok}{c c':Ctx ok}(b:∀k,c.F k->c'.F k):∀{xs:List (AV×AV)}{es:List MapEntry}{clock:Nat},(∀e∈xs,noRef e.1=true/\noRef e.2=true)->MRel c w xs es clock->MRel c' w xs es clock|[],_,_,_,h=>h|(k,x)::r,es,clock,d,h=>by obtain⟨e,a,h1,m,l,i,f,g⟩:=h;obtain⟨q1,q2⟩:=d (k,x) (by simp);exact⟨e,a,h1,Zcp b _ _ q1 m,Zcp b _ _ q2 l,i,f,MRel.noRef2 b (fun e he=>d e (by simp[he])) g⟩
theorem NoRefB.rel{ok}{c c':Ctx ok}(m:NoRefB x)(p:∀k,c.F k->c'.F k)(n:∀g,c'.ρ b g=c.ρ b g)(o:∀k g base,c.ρ b g=some (.loc k base)->(∀j,x≠.dead j)->x.gen=g->c.O k->c'.O k)(h:BRel c w b x):BRel c' w b x:=by cases x with|dead g=>trivial|map g es=>obtain⟨d,l,clock,h1,a,i,f⟩:=h;exact⟨d,l,clock,(n _).trans h1,o d g 0 h1 (fun _=>by simp) rfl a,i,MRel.noRef2 p m f.1,f.2⟩|loop=>exact m.elim|cells g cs=>
 rcases h with⟨h1,a⟩|⟨d,base,C,e,t,h1,a,i,f,q,s⟩;·exact .inl ⟨(n _).trans h1,a⟩
 exact .inr ⟨d,base,C,e,t,(n _).trans h1,o d g base h1 (fun _=>by simp) rfl a,i,f,q,VPre.noRef2 p m s⟩
theorem HSpec.frame{h1 q h':Heap}(D)[DecidablePred D](hs:HSpec P f args h1 v q)(ha:OnlyD D args)(hv:OnlyD D [v])(e1:∀k,h1.get k=if D k then h.get k else none)(e2:∀k,¬D k->q.get k=none)(e3:∀k,h'.get k=if D k then q.get k else h.get k)(n1:∀k x,h1.get k=some x->NoRefB x)(n2:∀k x,q.get k=some x->NoRefB x):HSpec P f args h v h':=by
 obtain⟨hc,hs⟩:=hs;refine⟨hc,fun c w M H N=>?_⟩;let J:Ctx (okc P):={ρ:=fun k y=>if D k then c.ρ k y else none,F:=c.F,O:=fun k=>∃b g base,D b/\Live h b g/\c.ρ b g=some (.loc k base),base:=c.base};have o:∀b y,D b->J.ρ b y=c.ρ b y:=fun b y u=>if_pos u;have R:∀k,J.O k->c.O k:=fun k⟨b,g,base,_,S,a⟩=>H.owned S a;have F:∀{k x},h1.get k=some x->D k/\h.get k=some x:=fun{k x}a=>by simp_all
 have hl1:∀{k y},Live h1 k y->D k/\Live h k y:=fun{k y}⟨x,a,hx,d⟩=>⟨(F a).1,x,(F a).2,hx,d⟩;have H1:HRel J h1 w:=by
  refine⟨fun k a y=>?_,fun k x a y z=>?_,fun k x a=>?_,fun k y U y' m base l t s A G=>?_,fun k hF i=>H.disj k hF (R k i),H.inF,fun k i=>H.inO k (R k i)⟩
  ·rw[e1]at a;split at a;·rename_i d;rw[o _ _ d];exact H.fresh k a y
   grind
  ·obtain⟨d,a⟩:=F a;rw[o _ _ d];exact H.later k _ a y z
  ·obtain⟨d,X⟩:=F a;exact NoRefB.rel (c:=c) (c':=J) (n1 k x a) (fun _ h=>h) (fun g=>o k g d) (fun m g base hp B I _=>⟨k,g,base,d,⟨x,X,I,B⟩,hp⟩) (H.blk k x X)
  obtain⟨Z,t⟩:=hl1 t;obtain⟨Q,s⟩:=hl1 s;rw[o _ _ Z]at A;rw[o _ _ Q]at G;exact H.inj _ _ _ _ _ _ _ t s A G
 refine(hs J w M H1 (ha _ c J w _ (fun b g u=>o b g u) (fun _ h=>h) N)).mono ?_;rintro e w'⟨cv,K,rfl,E,H',V⟩;let T:Ctx (okc P):={ρ:=fun k y=>if D k then K.ρ k y else c.ρ k y,F:=K.F,O:=fun k=>K.O k\/(c.O k/\¬J.O k),base:=c.base};have n:∀b y,D b->T.ρ b y=K.ρ b y:=fun b y u=>if_pos u;have C:∀b y,¬D b->T.ρ b y=c.ρ b y:=fun b y u=>if_neg u;have E2:Evo c w T w':=by
  refine⟨E.os,E.tape,E.output,E.size,E.shape,fun k a i=>E.keep k a fun h=>i (R k h),fun b y p hp=>?_,fun k a=>E.frz k a,fun k a=>?_,fun k a=>?_,rfl⟩
  ·by_cases d:D b;·rw[n _ _ d];exact E.rho b y p ((o _ _ d).trans hp)
   simp_all
  ·rcases E.frzNew k a with h|h|h;·exact .inl h
   ·simp_all
   omega
  rcases a with a|a
  ·rcases E.own k a with h|h;·simp_all
   exact .inr h
  simp_all
 have L:∀{k x},h'.get k=some x->(D k/\q.get k=some x)\/(¬D k/\h.get k=some x):=fun{k x}a=>by grind
 have O:∀{k y},Live h' k y->(D k/\Live q k y)\/(¬D k/\Live h k y):=fun{k y}⟨x,a,hx,d⟩=>by
  rcases L a with⟨q1,q2⟩|⟨q1,q2⟩;·exact .inl ⟨q1,x,q2,hx,d⟩
  exact .inr ⟨q1,x,q2,hx,d⟩
 have Y:∀{k y m base},¬D k->Live h k y->c.ρ k y=some (.loc m base)->¬J.O m:=by rintro k y m base d S hp⟨b,g,l,u,hlb,hpb⟩;have:=H.inj _ _ _ _ _ _ _ S hlb hp hpb;simp_all
 have hcross:∀{k y U y' m base l},D k->Live q k y->K.ρ k y=some (.loc m base)->¬D U->Live h U y'->c.ρ U y'=some (.loc m l)->False:=by
  intro k y U y' m base l d t A hd' s G;rcases E.own m (H'.owned t A)with h|h;·grind
  have:=H.inO m (H.owned s G);omega
 refine⟨cv,T,rfl,E2,⟨fun k a y=>?_,fun k x a y z=>?_,fun k x a=>?_,fun k y U y' m base l t s A G=>?_,fun k hF i=>?_,H'.inF,fun k i=>?_⟩,?_⟩
 ·rw[e3]at a;split at a;·rename_i d;rw[n _ _ d];exact H'.fresh k a y
  rename_i d;rw[C _ _ d];exact H.fresh k a y
 ·rcases L a with⟨d,a⟩|⟨d,a⟩;·rw[n _ _ d];exact H'.later k x a y z
  rw[C _ _ d];exact H.later k x a y z
 ·rcases L a with⟨d,a⟩|⟨d,a⟩;·exact NoRefB.rel (c:=K) (c':=T) (n2 k x a) (fun _ h=>h) (fun g=>n k g d) (fun m g base hp B I i=>.inl i) (H'.blk k x a)
  refine Zco (E2.ext H.disj) (fun m base B hp=>?_) (H.blk k x a);have S:Live h k x.gen:=⟨x,a,rfl,B⟩;have i:=H.owned S hp;have hn:=Y d S hp;exact⟨.inr ⟨i,hn⟩,E.keep m (H.inO m i) hn⟩
 ·rcases O t with⟨Z,t⟩|⟨Z,t⟩
  ·rw[n _ _ Z]at A;rcases O s with⟨Q,s⟩|⟨Q,s⟩;·rw[n _ _ Q]at G;exact H'.inj _ _ _ _ _ _ _ t s A G
   grind
  rw[C _ _ Z]at A;rcases O s with⟨Q,s⟩|⟨Q,s⟩;·grind
  rw[C _ _ Q]at G;exact H.inj _ _ _ _ _ _ _ t s A G
 ·rcases i with i|⟨i,hn⟩;·exact H'.disj k hF i
  rcases E.frzNew k hF with h|h|h;·exact H.disj k h i
  ·exact hn h
  have:=H.inO k i;omega
 ·rcases i with i|⟨i,_⟩;·exact H'.inO k i
  exact Zbb (H.inO k i) E.size
 have h5:VRels K w' [v] [cv]:=by simp only[VRels];simp_all
 have h6:=hv _ K T w' [cv] (fun b g u=>n b g u) (fun _ h=>h) h5;simp_all[VRels]
theorem Qcm(a:b<1099511627775)(k):(hp [(b,x)]).get k=if k=b then some x else none:=by
 simp only[hp];by_cases e:k=b;·subst e;rw[QaA a,if_pos rfl]
 simp_all[QaH,get_e]
theorem Qfx{c}{y}(a:b<1099511627775)(hc:c<1099511627775)(k):(hp [(b,x),(c,y)]).get k=if k=b then some x else if k=c then some y else none:=by
 rw[Qa0];by_cases e:k=b;·subst e;rw[QaA a,if_pos rfl]
 simp_all[QaH,Qcm]
theorem HSpec.frameA{i}(n:HSpec P f args (hp [(b,.cells g xs)]) v (hp [(b,.cells i ys)]))(p:OnlyD (fun k=>k=b) args)(l:OnlyD (fun k=>k=b) [v])(m:noRefs xs=true)(o:noRefs ys=true)(q:h.get b=some (.cells g xs))(d:Nat.blt b 1099511627775=true):HSpec P f args h v (h.set b (.cells i ys)):=by
 exact bqAz1
theorem HSpec.frameM{i}{xs ys}(n:HSpec P f args (hp [(b,.map g xs)]) v (hp [(b,.map i ys)]))(p:OnlyD (fun k=>k=b) args)(l:OnlyD (fun k=>k=b) [v])(m:∀e∈xs,noRef e.1=true/\noRef e.2=true)(o:∀e∈ys,noRef e.1=true/\noRef e.2=true)(q:h.get b=some (.map g xs))(d:Nat.blt b 1099511627775=true):HSpec P f args h v (h.set b (.map i ys)):=by
 exact bqAz1
theorem HSpec.frameB{a l q}{us}(y:HSpec P f args (hp [(a,.cells l us),(b,.cells g xs)]) v (hp [(a,.cells l us),(b,.cells q ys)]))(u:OnlyD (fun k=>k=a\/k=b) args)(s:OnlyD (fun k=>k=a\/k=b) [v])(hu:noRefs us=true)(t:noRefs xs=true)(z:noRefs ys=true)(n:h.get a=some (.cells l us))(A:h.get b=some (.cells g xs))(o:a≠b)(m:Nat.blt a 1099511627775=true)(p:Nat.blt b 1099511627775=true):HSpec P f args h v (h.set b (.cells q ys)):=by
 have i:a<1099511627775:=by simp_all
 have d:b<1099511627775:=by simp_all
 refine HSpec.frame (fun k=>k=a\/k=b) y u s (fun k=>?_) (fun k c=>?_) (fun k=>?_) (fun k x c=>?_) (fun k x c=>?_);·rw[Qfx i d];grind
 ·simp_all[Qfx]
 ·rw[Qfx i d];by_cases e:k=a;·subst e;rw[if_pos rfl,if_pos (.inl rfl),QaH d o,n]
  rw[if_neg e];by_cases w:k=b;·subst w;rw[if_pos rfl,if_pos (.inr rfl),QaA d]
  simp_all[QaH]
 ·rw[Qfx i d]at c;split at c;·cases c;exact hu
  split at c;·cases c;exact t
  cases c
 rw[Qfx i d]at c;split at c;·cases c;exact hu
 split at c;·cases c;exact z
 cases c
theorem HSpec.Qhi{m:Nat}{L0 L}(n)(d:okFn P f sf=true)(o:Nat.ble args.length sf.n=true)(hm:(Nat.ble m 1099511627775&&L0.all fun p=>Nat.blt p.1 m)=true)(hw:wS P ⟨sf.n,m⟩ sf.body [] n (argT 0 args) (hp L0) fun e T k _=>(e=.normal\/e=.ret)/\∃vs,resV T k sf.res=some vs/\Rec m [(0,v)] L [(0,resOf vs)] k):HSpec P f args (hp L0) v (hp L):=by
 simp only[Zac,Nat.ble_eq]at hm;refine HSpec.of_W2 d (Zaw o) (fun b a=>?_) ((wpC.toW hw).mono ?_)
 ·have :∀M:HL,M.all (fun p=>Nat.blt p.1 m)=true->(hp M).get b=none:=by intro M;induction M with|nil=>intro _;exact get_e|cons q M h=>obtain⟨j,x⟩:=q;intro l;simp only[Zcb,Zac,Nat.blt,Nat.ble_eq]at l;rw[Qa0,QaH (by omega) (by omega)];exact h (by grind[Nat.blt])
  grind
 rintro e B⟨s,h1,vs,g,t,ho,c,a,i⟩;exact⟨h1,vs,_,g,Rec.maps ho a,Rec.heap ho a,Rec.dom ho c,i 0⟩
end Go.AM
namespace Go.AM.SU
open Go.Proofs Go.AM.SD Go.AM.SE
variable{v:AV}{h:Heap}{a c cs:List AV}{fs:List Fr}{A dead l:List Nat}{N:NM}{f i k n off:Nat}{d:Option Nat}{P:Program}{Q:QC}{T:Tmps}
theorem _root_.Go.AM.Zc2{p q:Prop}(k:q)(h:p=q:=by conv=>lhs;simp(disch:=first|omega|exact PairsOK.mk rfl|(simp only[lenW]<;>omega))only[Zam,wW,wV,simprocAttr]):p:=h▸k
theorem _root_.Go.AM.Zc3{p q A:Prop}(a:A)(k:q)(h:A->p=q:=by intro a;conv=>lhs;simp(disch:=first|omega|exact PairsOK.mk rfl|(simp only[lenW]<;>omega))only[a,Zam,wW,wV,simprocAttr]):p:=h a▸k
theorem not92(A)(x:Nat)(hA:A.length<=1000000):Ps 94 [.int .i64 (x:Int),.fptr [ZN A]] (.bool (!decide (x∈A))):=by
 refine Zcv 64 (Ok s94) rfl (by simp only[noRefs,noRef,Qaa];rfl) rfl ?_;have h:=contains62 (nz A) x (by simp;omega);have e:decide ((x:Int)∈nz A)=decide (x∈A):=by
  refine decide_eq_decide.2 ⟨fun h=>?_,fun h=>Zaq.2 ⟨x,h,rfl⟩⟩;obtain⟨a,h1,b⟩:=Zaq.1 h;have:a=x:=by omega
  exact this▸h1
 rw[e,QbE]at h;unfold s94;refine Zc2 ?_;refine cp h ?_;refine Zc2 ?_;exact⟨.inr trivial,_,rfl,rfl⟩
def fstN(A l:List Nat):Int:=if l.all (fun x=>decide (x∈A))then-1 else(l.findIdx (fun x=>!decide (x∈A)):Int)
theorem cpc{r}{args}(hp:PSpec P f (a++args++c) v)(k:wR P N r dead fs (n+1) (putD T d v) h Q):wCall P N .heap (.fn f a c) args d r dead fs n T h Q:=⟨v,h,hp.toH h,k⟩
theorem chc{r}{h1}{args}(hp:HSpec P f (a++args++c) h v h1)(k:wR P N r dead fs (n+1) (putD T d v) h1 Q):wCall P N .heap (.fn f a c) args d r dead fs n T h Q:=⟨v,h1,hp,k⟩
theorem index110(A l)(hA:A.length<=1000000)(o:l.length<=1000000):Ps 151 [ZN l,.fn 94 [] [.fptr [ZN A]]] (.int .i64 (fstN A l)):=by
 refine Zcv 64 (Ok s151) rfl (by simp only[noRefs,noRef,Qaa];rfl) rfl ?_;unfold s151;refine Zc2 ?_;refine QaC 100 (fun i:Nat=>[(0,ZN l),(1,.fn 94 [] [.fptr [ZN A]]),(7,.int .i64 l.length),(8,.int .i64 i)]) (fun _=>[]) (fun i=>i<=l.length/\∀(j:Nat)y,j<i->l[j]?=some y->y∈A) (fun i=>l.length-i) 0 ⟨[],rfl,au0,au7,au8⟩ ⟨Zaj _,fun j y c=>absurd c (Zay _)⟩ ?_;rintro i⟨hi,g⟩;by_cases a:i<l.length
 ·obtain⟨x,b⟩:=Qak a;have f:=not92 A x hA;by_cases d:x∈A
  ·have e:(!decide (x∈A))=false:=by simp[d]
   rw[e]at f;refine Zc3 (Zc8 a (QaI b)) ?_;refine cpc f ?_;refine Zc2 ?_;refine⟨i+1,by omega,⟨by omega,fun j y c m=>?_⟩,⟨[],rfl,au0,au7,au8⟩⟩;by_cases e:j=i;·subst e;rw[b]at m;cases m;exact d
   exact g j y (by omega) m
  have e:(!decide (x∈A))=true:=by simp[d]
  rw[e]at f;refine Zc3 (Zc8 a (QaI b)) ?_;refine cpc f ?_;refine Zc2 ?_;refine⟨.inr trivial,_,rfl,?_⟩;have h1:¬l.all (fun x=>decide (x∈A))=true:=by intro h;exact d (by simpa using ZaH.1 h x (Zaa b))
  have n:l.findIdx (fun x=>!decide (x∈A))=i:=by rw[Zca a];refine⟨by rw[Zak a]at b;cases b;simp[d],fun j c=>?_⟩;have:=g j l[j] c (Zak (by omega));simpa using this
  unfold fstN;rw[if_neg h1,n];rfl
 have h1:l.all (fun x=>decide (x∈A))=true:=by rw[ZaH];intro x b;obtain⟨j,c,k⟩:=ZaO b;simpa using g j x (by omega) (by rw[Zak c,k])
 refine Zc3 a ?_;refine⟨.inr trivial,_,rfl,?_⟩;unfold fstN;rw[if_pos h1];rfl
theorem QdD{vs}(h:off<cs.length):putR cs off vs=cs.take off++vs++cs.drop (off+vs.length):=by
 unfold putR;split;·rename_i v;rw[List.set_eq_take_append_cons_drop,if_pos h];simp
 rfl
theorem Qnu{r}{b g len sz}{zero}(i:h.get b=some (.cells g cs))(p:0<len)(o:off+len*sz<=cs.length)(f:zero.length=sz)(ho:zero.all AV.one=true)(c:b<lim)(m:wR P N r dead fs (n+1) (putD T d .any) (h.set b (.cells g (putR cs off (List.replicate len zero).flatten))) Q):wM P N (aClear sz zero (.sl b g off len sz)) d r dead fs n T h Q:=by
 obtain⟨k,rfl⟩:∃k,len=k+1:=⟨len-1,by omega⟩;refine⟨_,_,?_,m⟩;have l:Nat.beq g g=true:=by simp
 have a:Nat.blt b lim=true:=by simpa using c
 simp only[aClear,if_true,HM.cells,HM.run,i,l,cond_true];rw[if_pos ⟨o,f,ho⟩];simp only[HM.run,a,cond_true]
def fltN(A l:List Nat):List Nat:=l.filter fun x=>decide (x∈A)
theorem Qnv{j v}(h:l[j]?=some v):fltN A (l.take (j+1))=if v∈A then fltN A (l.take j)++[v]else fltN A (l.take j):=by unfold fltN;rw[Za6,h,Option.toList,Zbj];by_cases a:v∈A<;>simp[a]
def delL(A l:List Nat):List Nat:=fltN A l++List.replicate (l.length-(fltN A l).length) 0
theorem QuO(h:l.all (fun x=>decide (x∈A))=true):fltN A l=l:=by unfold fltN;exact ZbI.2 fun x a=>ZaH.1 h x a
theorem QtD:(List.replicate k [AV.int .i64 0]).flatten=ZI (nz (List.replicate k 0)):=by induction k with|zero=>rfl|succ k a=>rw[Za7,Zbw,a];rfl
theorem QrS:(ZI (nz l)).take i=ZI (nz (l.take i)):=by simp[ZI,nz,List.map_take]
theorem QpB{x}(h:l[i]?=some x):(ZI (nz l))[i]?=some (.int .i64 (x:Int)):=by simp[ZI,h]
theorem del40(A l)(hA:A.length<=1000000)(P:l.length<=1000000):HSpec Tryz.prog 93 [.sl 98 0 0 l.length 1,.fn 94 [] [.ptr 75 0 0]] (hp [(75,.cells 0 [ZN A]),(98,.cells 0 (ZI (nz l)))]) (.sl 98 0 0 (fltN A l).length 1) (hp [(75,.cells 0 [ZN A]),(98,.cells 0 (ZI (nz (delL A l))))]):=by
 refine HSpec.Qhi (m:=99) 100 (Ok s93) rfl rfl ?_;have N:(ZI (nz l)).length=l.length*1:=by simp[ZI]
 unfold s93;refine Zc2 ?_;refine chc (ZcQ (ZcT (FrzTo.all gg N) (ZcT (FrzTo.fn ZcS (ZcT (ZcP (g:=0) (cs:=[ZN A]) gg (ZcT (Zcy _) ZcS)) ZcS)) ZcS)) (index110 A l hA P) rfl) ?_;by_cases a:l.all (fun x=>decide (x∈A))=true;·have z:fstN A l=-1:=if_pos a;refine Zc3 z ?_;refine⟨.inr trivial,_,rfl,?_⟩;unfold delL;rw[QuO a,ZbO,List.replicate_zero,Zas];exact⟨[(75,.nil),(98,.nil)],rfl,au0,au7,au8⟩
 have z:fstN A l=(l.findIdx (fun x=>!decide (x∈A)):Int):=if_neg a;have hex:∃x∈l,(!decide (x∈A))=true:=by have:¬∀x∈l,decide (x∈A)=true:=fun h=>a (ZaH.2 h);obtain⟨x,s⟩:=Classical.not_forall.1 this;obtain⟨s,Q⟩:=Classical.not_imp.1 s;exact⟨x,s,by simpa using Q⟩
 have k:l.findIdx (fun x=>!decide (x∈A))<l.length:=Zbt hex;obtain⟨c,F⟩:∃c,c=l.findIdx (fun x=>!decide (x∈A)):=⟨_,rfl⟩;rw[<-F]at z k;have L:l[c]∉A:=by have:=List.findIdx_getElem (w:=by rw[<-F];exact k) (xs:=l) (p:=fun x=>!decide (x∈A));simp only[<-F]at this;simpa using this
 have q:fltN A (l.take c)=l.take c:=by unfold fltN;refine ZbI.2 fun x s=>?_;obtain⟨j,I,rfl⟩:=ZaO s;rw[Zap]at I;have:=List.not_of_lt_findIdx (xs:=l) (p:=fun x=>!decide (x∈A)) (i:=j) (by rw[<-F];omega);rw[List.getElem_take];simpa using this
 have H:fltN A (l.take (c+1))=l.take c:=by rw[Qnv (Zak k),if_neg L,q]
 have G:¬(c:Int)=-1:=by omega
 refine Zc3 (Zc8 z G) ?_;refine QaC 110 (fun t:Nat×Nat×List Nat=>[(0,.sl 98 0 0 l.length 1),(1,.fn 94 [] [.ptr 75 0 0]),(5,.int .i64 t.2.1),(6,.int .i64 t.1)]) (fun t=>[(75,.cells 0 [ZN A]),(98,.cells 0 (ZI (nz t.2.2)))]) (fun t=>t.1<=l.length/\t.2.1<t.1/\t.2.2.length=l.length/\t.2.2.take t.2.1=fltN A (l.take t.1)/\t.2.2.drop t.1=l.drop t.1) (fun t=>l.length-t.1) (c+1,c,l) ⟨[(75,.nil),(98,.nil)],rfl,au0,au7,au8⟩ ⟨by dsimp only;omega,by dsimp only;omega,rfl,H.symm,rfl⟩ ?_;rintro⟨j,i,C⟩⟨I,J,b,m,E⟩;dsimp only at I J b m E⊢;by_cases d:j<l.length
 ·obtain⟨v,M⟩:=Qak d;have y:C[j]?=some v:=by
   have:(C.drop j)[0]?=(l.drop j)[0]?:=by rw[E]
   simpa[M]using this
  have B:=Qnv (A:=A) M;have f:=not92 A v hA;by_cases hm:v∈A
  ·have K:(!decide (v∈A))=false:=by simp[hm]
   rw[K]at f;rw[if_pos hm]at B;refine Zc3 (Zc9 d b (QpB y)) ?_;refine chc (ZcQ (ZcT (Zcy _) (ZcT (ZcP (g:=0) (cs:=[ZN A]) gg (ZcT (Zcy _) ZcS)) ZcS)) f rfl) ?_;have g:i<l.length:=by omega
   have p:(ZI (nz C)).set i (.int .i64 (v:Int))=ZI (nz (C.set i v)):=by simp[ZI,nz,List.map_set]
   have u:i+1<=(ZI (nz C)).length:=by simp[ZI,b];omega
   have n:i+1<=l.length:=by omega
   refine Zc3 (Zdb g b p u n) ?_;refine⟨(j+1,i+1,C.set i v),by dsimp only;omega,⟨by dsimp only;omega,by dsimp only;omega,by simp[b],?_,?_⟩,?_⟩;·dsimp only;rw[B,<-m,Za6,Zbz (by omega),List.take_set,List.set_eq_of_length_le (by rw[Zap];omega)];rfl
   ·dsimp only;rw[List.drop_set_of_lt (by omega)];have:=congrArg (List.drop 1) E;simpa[Za1]using this
   exact⟨[(75,.nil),(98,.nil)],rfl,au0,au7,au8⟩
  have K:(!decide (v∈A))=true:=by simp[hm]
  rw[K]at f;rw[if_neg hm]at B;refine Zc3 (Zc9 d b (QpB y)) ?_;refine chc (ZcQ (ZcT (Zcy _) (ZcT (ZcP (g:=0) (cs:=[ZN A]) gg (ZcT (Zcy _) ZcS)) ZcS)) f rfl) ?_;refine Zc2 ?_;refine⟨(j+1,i,C),by dsimp only;omega,⟨by dsimp only;omega,by dsimp only;omega,b,by rw[B];exact m,?_⟩,?_⟩;·dsimp only;have:=congrArg (List.drop 1) E;simpa[Za1]using this
  exact⟨[(75,.nil),(98,.nil)],rfl,au0,au7,au8⟩
 have O:j=l.length:=by omega
 subst O;rw[Zan]at m;have g:(i:Int)<=(l.length:Int):=by omega
 refine Zc3 (Zc8 d g) ?_;refine Qnu gg (by omega) (by simp[ZI,b];omega) rfl rfl (by decide) ?_;refine Zc3 g ?_;refine⟨.inr trivial,_,rfl,?_⟩;have o:(fltN A l).length=i:=by rw[<-m,Zap];omega
 have w:putR (ZI (nz C)) i (List.replicate (l.length-i) [AV.int .i64 0]).flatten=ZI (nz (delL A l)):=by rw[QdD (by simp[ZI,b];omega),QtD,QrS,m];unfold delL;rw[o,QaM,QaB,List.drop_of_length_le (by simp[ZI,b];omega),Zas]
 rw[o,w];exact⟨[(75,.nil),(98,.nil)],rfl,au0,au7,au8⟩
end Go.AM.SU
namespace Go.AM.SO
open Go.Proofs
set_option maxHeartbeats 4000000
noncomputable section
def cf:YA.Cf:={most:=.pure,always:=[154].map fun k=>(k,.heap),value:=.pure}
def s98:SFn:=by
 refine(?f:YA.Yt Tryz.prog cf 98 [[0,2],[15,16,17],[18],[1,3,19,20],[2,3,19,21,22,23],[25,26],[1,4,24],[4,24,28,29,30,31,32,33,34,35,36,37],[1,27],[2,27,38],[],[39,40],[],[43,44],[8,45,46,47,48],[49],[41,42,50],[],[54,55,56],[57,58,59,60,61,62,63],[64],[1,5,6,7,51,52,53,10,11,65,66],[2,10,11,65,67,68,69,70,71],[72],[6,51,52,53,73],[],[77,78,79],[13,80,81,82,83,84,85,86],[87],[1,5,7,74,75,76,14,88,89],[2,14,88,90],[1,5,7,74,75,76,91,92,93]]) ?s ?h;case h=>exact YA.rr
 exact fun s _=>s
def s9:SFn:=by
 refine(?f:YA.Yt Tryz.prog cf 9 [[0,2],[1,3,4,5,6]]) ?s ?h;case h=>exact YA.rr
 exact fun s _=>s
def s144:SFn:=by
 refine(?f:YA.Yt Tryz.prog cf 144 [[4],[0,1,5,6,7,8]]) ?s ?h;case h=>exact YA.rr
 exact fun s _=>s
def s191:SFn:=by
 refine(?f:YA.Yt Tryz.prog cf 191 [[0,2],[1,3,4,5,6,7,8,9,10,11]]) ?s ?h;case h=>exact YA.rr
 exact fun s _=>s
def s102:SFn:=by
 refine(?f:YA.Yt Tryz.prog cf 102 [[2],[6,7],[0,8],[2,8,9],[0],[],[13,14,15],[17,18,19,20],[3,10,11,12,45,42,44,43,41,40,33,32,31,5,16],[16,22,23,24,25],[3,10,11,12,45,42,44,43,41,40,33,32,31,5,21],[21,27,28,29,30,34],[3,10,11,12,45,42,44,43,41,40,33,32,31,5,26],[26,36,37,38,39,46],[3,10,11,12,45,42,44,43,41,40,33,32,31,5,35],[2,5,35,47,48,49],[50],[3,10,11,12,45,42,44,43,41,40,33,32,31]]) ?s ?h;case h=>exact YA.rr
 exact fun s _=>s
def s155:SFn:=by
 refine(?f:YA.Yt Tryz.prog cf 155 [[4],[0,1,5,6,7]]) ?s ?h;case h=>exact YA.rr
 exact fun s _=>s
def s157:SFn:=by
 refine(?f:YA.Yt Tryz.prog cf 157 [[0],[10],[11],[],[15,16,17],[5,18,19,20,21,22,23,24,25],[26],[12,13,14,27],[],[31,32,33],[7,34,35,36,37,38,39,40,41,42,43,44],[45],[1,28,29,30,46],[],[50,51,52],[9,53,54,55,56,57,58,59,60,61,62,63,64,65],[66],[3,47,48,49,67]]) ?s ?h;case h=>exact YA.rr
 exact fun s _=>s
def s89:SFn:=by
 refine(?f:YA.Yt Tryz.prog cf 89 [[0,2],[],[],[6],[7,10,11,12,13,14,15],[16,17,18,19,20],[25,26,27,28,29,30,31],[25,32,33,34,35,36,37,38,39,40,41,42,43,44,45,46,47,48,49],[5,50,51,52,53],[8,9],[1,3,4,24,23,22,21,54]] [(3,[(7,16),(12,16),(12,18)])]) ?s ?h;case h=>exact YA.rr
 exact fun s _=>s
def s198:SFn:=by
 refine(?f:YA.Yt Tryz.prog cf 198 [[0,1,4],[7,8,9],[2,3,10],[4,10,11],[],[15,16,17,18],[20,21,22,23,30],[2,3,12,13,14,59,52,58,57,54,56,55,53,51,44,36,43,42,41,38,40,39,37,35,29,25,28,27,26,24,6,5,19],[5,19,32,33,34,45],[2,3,12,13,14,59,52,58,57,54,56,55,53,51,44,36,43,42,41,38,40,39,37,35,29,25,28,27,26,24,6,31],[6,31,47,48,49,50,60],[2,3,12,13,14,59,52,58,57,54,56,55,53,51,44,36,43,42,41,38,40,39,37,35,29,25,28,27,26,24,46],[4,46,61],[2,3,12,13,14,59,52,58,57,54,56,55,53,51,44,36,43,42,41,38,40,39,37,35,29,25,28,27,26,24]]) ?s ?h;case h=>exact YA.rr
 exact fun s _=>s
def s200:SFn:=by
 refine(?f:YA.Yt Tryz.prog cf 200 [[0,1,4],[7,8,9],[2,3,10],[4,10,11],[],[15,16,17,18],[20,21,22,23,30],[2,3,12,13,14,53,52,51,44,36,43,42,41,38,40,39,37,35,29,25,28,27,26,24,6,5,19],[5,19,32,33,34,45],[2,3,12,13,14,53,52,51,44,36,43,42,41,38,40,39,37,35,29,25,28,27,26,24,6,31],[6,31,47,48,49,50,54],[2,3,12,13,14,53,52,51,44,36,43,42,41,38,40,39,37,35,29,25,28,27,26,24,46],[4,46,55],[2,3,12,13,14,53,52,51,44,36,43,42,41,38,40,39,37,35,29,25,28,27,26,24,56,57],[58],[58]]) ?s ?h;case h=>exact YA.rr
 exact fun s _=>s
def s151:SFn:=by
 refine(?f:YA.Yt Tryz.prog cf 151 [[4],[6],[],[9,10],[11,12,13,14,15],[0,1,7,8,5,16,17],[4,5,16,18],[0,1,7,8]]) ?s ?h;case h=>exact YA.rr
 exact fun s _=>s
def s201:SFn:=by
 refine(?f:YA.Yt Tryz.prog cf 201 [[2],[3],[0,4],[0,4,5,6,7]]) ?s ?h;case h=>exact YA.rr
 exact fun s _=>s
def s202:SFn:=by
 refine(?f:YA.Yt Tryz.prog cf 202 [[2],[3],[0,4],[0,4,5,6,7]]) ?s ?h;case h=>exact YA.rr
 exact fun s _=>s
def s192:SFn:=by
 refine(?f:YA.Yt Tryz.prog cf 192 [[3],[0,1,4,5,6]]) ?s ?h;case h=>exact YA.rr
 exact fun s _=>s
def s193:SFn:=by
 refine(?f:YA.Yt Tryz.prog cf 193 [[4],[0,1,5,6,7,8,9]]) ?s ?h;case h=>exact YA.rr
 exact fun s _=>s
def s194:SFn:=by
 refine(?f:YA.Yt Tryz.prog cf 194 [[6],[],[11,12,13,14],[18,19,20,21,22,35],[36,37,38,39,52],[],[],[53,54,55,56,57,58],[53],[59,60,61,62,63,64],[8,9,59,65,66,67],[10,68,69,70,71,72],[0,1,2,7,51,43,50,46,49,48,47,45,44,42,41,40,34,26,33,29,32,31,30,28,27,25,24,23,17,16,15,73]]) ?s ?h;case h=>exact YA.rr
 exact fun s _=>s
def s195:SFn:=by
 refine(?f:YA.Yt Tryz.prog cf 195 [[4],[0,1,5,6,7,8]]) ?s ?h;case h=>exact YA.rr
 exact fun s _=>s
def s253:SFn:=by
 refine(?f:YA.Yt Tryz.prog cf 253 [[2],[0,3,4,5,6,7,8]]) ?s ?h;case h=>exact YA.rr
 exact fun s _=>s
def s252:SFn:=by
 refine(?f:YA.Yt Tryz.prog cf 252 [[4],[0,1,5,6,7]]) ?s ?h;case h=>exact YA.rr
 exact fun s _=>s
def s277:SFn:=by
 refine(?f:YA.Yt Tryz.prog cf 277 [[4],[0,1,5,6,7,8,9]]) ?s ?h;case h=>exact YA.rr
 exact fun s _=>s
end
end Go.AM.SO
namespace Go.AM.SD
variable{l:List Rm}
def stR(l:List Rm)(k:Nat):Nat:=(l.getD k (rm0 0)).st
def sw(l:List Rm)(j:Nat):List Rm:=(l.set (j+1) (l.getD j (rm0 0))).set j (l.getD (j+1) (rm0 0))
def insJ:Nat->List Rm->List Rm|0,l=>l|j+1,l=>if stR l (j+1)<stR l j then insJ j (sw l j)else l
def isort(l:List Rm):Nat->List Rm|0=>l|i+1=>insJ (i+1) (isort l i)
theorem Qnw{j}:(sw l j).length=l.length:=by simp[sw]
theorem Qnx:∀(j:Nat)(l:List Rm),(insJ j l).length=l.length
 |0,l=>rfl|j+1,l=>by
  simp only[insJ];split;·rw[Qnx j,Qnw]
  rfl
theorem QcL(l):∀i,(isort l i).length=l.length|0=>rfl|i+1=>by rw[isort,Qnx,QcL l i]
theorem Qjw{j k}(b:j+1<l.length):stR (sw l j) k=if k=j then stR l (j+1)else if k=j+1 then stR l j else stR l k:=by
 unfold stR sw;simp only[Zah,List.getElem?_set,ZbD];by_cases h1:k=j;·subst h1;rw[if_pos rfl,if_pos rfl,if_pos (by omega)];rfl
 rw[if_neg (fun e=>h1 e.symm),if_neg h1];by_cases a:k=j+1;·subst a;rw[if_pos rfl,if_pos rfl,if_pos b];rfl
 rw[if_neg (fun e=>a e.symm),if_neg a]
theorem QuP{j}(a:j+1<l.length):(sw l j).Perm l:=by
 have h1:l.getD j (rm0 0)=l[j]:=by simp[show j<l.length by omega]
 have b:l.getD (j+1) (rm0 0)=l[j+1]:=by simp[a]
 unfold sw;rw[h1,b];exact List.set_set_perm (i:=j+1) (j:=j) a (by omega)
theorem QlD:∀(j:Nat)(l:List Rm),j<l.length->(insJ j l).Perm l
 |0,l,_=>List.Perm.refl _|j+1,l,h=>by
  simp only[insJ];split;·exact(QlD j (sw l j) (by rw[Qnw];omega)).trans (QuP h)
  exact List.Perm.refl _
theorem Qjx(l):∀i,i<l.length\/i=0->(isort l i).Perm l|0,_=>List.Perm.refl _|i+1,h=>by rw[isort];exact(QlD (i+1) _ (by rw[QcL];omega)).trans (Qjx l i (by omega))
def SrtTo(l:List Rm)(i:Nat):Prop:=∀p q,p<q->q<=i->stR l p<=stR l q
theorem Qny:∀(j i:Nat)(l:List Rm),j<=i->i<l.length->(∀p q,p<q->q<=i->p≠j->q≠j->stR l p<=stR l q)->(∀q,j<q->q<=i->stR l j<=stR l q)->SrtTo (insJ j l) i
 |0,i,l,m,hi,h1,f=>fun p q a b=>by
  rw[insJ];by_cases e:p=0;·subst e;exact f q a b
  exact h1 p q a b e (by omega)|j+1,i,l,m,hi,h1,f=>by
  rw[insJ];split
  ·rename_i n;refine Qny j i (sw l j) (by omega) (by rw[Qnw];exact hi) (fun p q a b hp h=>?_) (fun q b g=>?_)
   ·rw[Qjw (by omega),Qjw (by omega),if_neg hp,if_neg h];by_cases d:p=j+1;·subst d;rw[if_pos rfl,if_neg (by omega)];exact h1 j q (by omega) b (by omega) (by omega)
    rw[if_neg d];by_cases c:q=j+1;·subst c;rw[if_pos rfl];exact h1 p j (by omega) (by omega) d (by omega)
    rw[if_neg c];exact h1 p q a b d c
   rw[Qjw (by omega),Qjw (by omega),if_pos rfl,if_neg (by omega)];by_cases e:q=j+1;·subst e;rw[if_pos rfl];omega
   rw[if_neg e];exact f q (by omega) g
  rename_i k;intro p q a b;by_cases d:q=j+1
  ·subst d;by_cases c:p=j;·subst c;omega
   have :=h1 p j (by omega) (by omega) (by omega) (by omega);omega
  by_cases c:p=j+1;·subst c;exact f q a b
  exact h1 p q a b c d
theorem QlE(l):∀i,i<l.length->SrtTo (isort l i) i|0,_=>fun p q a c=>by omega|i+1,h=>by have d:=QlE l i (by omega);rw[isort];refine Qny (i+1) (i+1) _ (Zar _) (by rw[QcL];exact h) (fun p q a c hp b=>d p q a (by omega)) (fun q c b=>by omega)
theorem QqD(h:0<l.length):(isort l (l.length-1)).Pairwise fun a b=>a.st<=b.st:=by rw[Za0];intro i j hi d c;rw[QcL]at hi d;have:=QlE l (l.length-1) (by omega) i j c (by omega);unfold stR at this;rw[Zah,Zah,Zak (by rw[QcL];exact hi),Zak (by rw[QcL];exact d)]at this;exact this
def srtR(l:List Rm):List Rm:=isort l (l.length-1)
theorem QrT(l):(srtR l).Perm l:=by unfold srtR;cases l with|nil=>exact List.Perm.refl _|cons a l=>exact Qjx _ _ (by simp)
theorem QrU(l):(srtR l).Pairwise fun a b=>a.st<=b.st:=by unfold srtR;cases l with|nil=>exact List.Pairwise.nil|cons a l=>exact QqD (by simp)
theorem QtE(l):(srtR l).length=l.length:=QcL l _
end Go.AM.SD
namespace Go.AM.SE
open Go.Proofs Go.AM.SD
theorem Qjy:aEq (.nil 2) false .nilsl .nilsl=some (.bool true):=rfl
theorem Qjz:aEq (.nil 2) false .nsl .nilsl=some (.bool false):=rfl
theorem Qh8{P}{N}{n}{d}{dead}{r}{T}{h}{Q}{fs}{sz bytes b2 c b a}:wM P N (aAppend .dyn n sz bytes (.sl b2 c b a sz) .nsl) d r dead fs n T h Q=wA P N (srcB (h.get b2) c b a sz) (some []) c a 0 sz bytes b2 d r dead fs n T h Q:=Qfj
theorem QlF:HSpec Tryz.prog 86 [.nilsl] .e (.sl 83 0 0 0 1) (hp [(83,.cells 0 [])]):=by refine ZcV 100 (Ok s86) rfl ?_;unfold s86;refine Zc7 @Qjy ?_;exact⟨.inr trivial,_,rfl,⟨[(83,.nil)],rfl,au0,au7,au8⟩⟩
theorem QlG:HSpec Tryz.prog 86 [.nsl] .e (.sl 83 0 0 0 1) (hp [(83,.cells 0 [])]):=by refine ZcV 100 (Ok s86) rfl ?_;unfold s86;refine Zc7 (Zc8 @Qjz @Qh8) ?_;exact⟨.inr trivial,_,rfl,⟨[(83,.blk 103 1)],rfl,au0,au7,au8⟩⟩
theorem clone56(l)(c:l.length<=1000000):HSpec Tryz.prog 86 [ZN l] .e (.sl 83 0 0 l.length 1) (hp [(83,.cells 0 (ZI (nz l)))]):=by cases l with|nil=>exact HSpec.empty QlF QlG|cons x l=>
 refine ZcV 100 (Ok s86) rfl ?_;have b:aEq (.nil 2) false (ZN (x::l)) .nilsl=some (.bool false):=rfl;have a:(ZI (nz (x::l))).all AV.one=true:=by simp[ZI,AV.one]
 generalize x::l=q at*;unfold s86;refine Zc7 (Zc8 b a) ?_;exact⟨.inr trivial,_,rfl,⟨[(83,.blk 103 1)],rfl,au0,au7,au8⟩⟩
end Go.AM.SE
theorem Go.AM.bop71{p:Prop}(h:p:=by
 refine⟨.inr trivial,_,rfl,?_⟩;have hr:ZR a (lf l)=⟨a.al,0,[],[]⟩:=by unfold ZR;rw[e];rfl
 rw[hr,e];exact RnO.tup (ZcO (RnO.agg (ZcO (RnO.slm (g:=0) rfl rfl rfl (QcK _) (by simp[ZI])) (ZcO (RnO.flat rfl) (ZcO RnO.nil (ZcO RnO.nil RnOL.nil))))) (ZcO RnO.nil RnOL.nil))):p:=h
theorem Go.AM.bmaGz{p:Prop}(h:p:=by
 have h2:=hsb k b' g' h1;simp only[Zav,Za2,or_false]at hp;rcases hp with rfl|rfl|rfl|rfl<;>cases hb<;>omega):p:=h
theorem Go.AM.b2PdR{p:Prop}(h:p:=by
 refine⟨[(60,.blk 60 0),(69,.blk 69 0),(83,.blk 83 0),(78,.blk 78 0),(74,.blk 74 0),(75,.blk 75 0),(76,.blk 76 0),(77,.blk 77 0)],rfl,au0,?_,au11⟩;repeat'(first|exact ZcD|(refine Zct ?_;first|rfl|(simp only[noRef,noRefs,Qaf,Zae,Zad,Zai,Qaa,Qam,Qag,Qan,Qap,Qay,Qai,Qah,Qab,Qar,Qaj,Qal,Qao,Qaq];done))|exact ZcR rfl|exact ZcJ|exact(True.intro:RnM _ _ _ [] [])|refine ZcK ?_ ?_|(refine Zcs ?_;first|rfl|(simp only[noRef,noRefs,Qaf,Zae,Zad,Zai,Qaa,Qam,Qag,Qan,Qap,Qay,Qai,Qah,Qab,Qar,Qaj,Qal,Qao,Qaq];done))|exact Rn.x1 rfl rfl|exact Rn.x2 rfl rfl|exact Rn.x3 rfl rfl|exact Rn.x4 rfl rfl|exact Rn.x5 rfl|exact Rn.x6 rfl|exact Rn.x7 rfl|refine ZcF rfl rfl ?_|refine ZcE rfl rfl rfl ?_ ?_|refine ZcG rfl rfl rfl ?_ ?_|refine ZcH rfl rfl ?_ ?_|refine ZcI rfl rfl ?_ ?_)
 exact ZcW fun x _=>Zcs rfl):p:=h
namespace Go.AM.SE
open Go.Proofs Go.AM.SD
variable{a:Aut}{es:List Ed}{o t:List Nat}{i:Nat}{left:Nat->Bool}{s:OE}
abbrev frzE(es:List Ed)(left:Nat->Bool):Nat->AV:=fun k=>egsN (ZO es left k)
abbrev rowE(es:List Ed)(left:Nat->Bool):Nat->List AV:=fun k=>(ZO es left k).flatMap edC
abbrev ptrE(es:List Ed)(left:Nat->Bool):Nat->AV:=fun k=>.sl (300+k) 0 0 (ZO es left k).length 3
theorem Qaq(es)(left)(l:List Nat):noRefs (l.map (frzE es left))=true:=Qd5 (fun x=>Qaj _) l
theorem QbH(l:List Ed):(l.flatMap edC).length=l.length*3:=Qbg (f:=edC) (k:=3) (fun _=>rfl) l
theorem QuQ(l:List Ed):flatVs (l.flatMap edC)=true:=by induction l with|nil=>rfl|cons x l a=>rw[Zaz];simp only[edC,ZaW,ZaT,flatVs,flatV,Zai];exact a
theorem QlH{e}(h:es[i]?=some e)(v):ZO (es.take (i+1)) left v=ZO (es.take i) left v++if e.1=v/\left e.2.2=true then[e]else[]:=by unfold ZO;rw[Za6,h,Option.toList,Zbj];congr 1;by_cases h1:e.1=v<;>by_cases a:left e.2.2=true<;>simp[h1,a]
theorem QcM(es)(left)(v):(ZO es left v).length<=es.length:=by unfold ZO;exact Za4 _ _
theorem repN(n):(List.replicate n [AV.nilsl]).flatten=(List.range n).map fun _=>AV.nilsl:=by rw[List.map_const',ZbH];induction n with|zero=>rfl|succ n a=>rw[Za7,Zbw,a];rfl
theorem QiD{n}(h:i<n):((List.range n).map (frzE es left))[i]?=some (egsN (ZO es left i)):=QgU h
abbrev numF(o:List Nat):Nat->AV:=fun x=>.int .i64 (idx o x:Nat)
def mks(a:Aut)(i:Nat)(o:List Nat):List Nat:=(List.range i).filter fun j=>a.ms.contains (o.getD j 0)
theorem Qfy{a}{i}{o}:(mks a i o).length<=i:=by unfold mks;exact ZaC (Za4 _ _) (by simp)
theorem Qkf(h:i<=o.length):mks a i (o++t)=mks a i o:=by unfold mks;refine ZbA fun j b=>?_;have:=Zau.1 b;rw[Zah,Zah,ZaP (by omega)]
theorem QfZ{v}(h:o[i]?=some v):mks a (i+1) o=mks a i o++if a.ms.contains v then[i]else[]:=by
 unfold mks;rw[ZaK,Zbj];congr 1;have:o.getD i 0=v:=by rw[Zah,h];rfl
 rw[ZbT,this];rfl
theorem QgV{j}{e}(h:es[j]?=some e):(es.take (j+1)).foldl (sEd i) s=sEd i ((es.take j).foldl (sEd i) s) e:=by rw[Za6,h,Option.toList,Zba];rfl
theorem Qcx:∀(es:List Ed)(s:OE),(es.foldl (sEd i) s).2.length=s.2.length+es.length|[],s=>by simp|e::es,s=>by rw[ZaS,Qcx es];unfold sEd;split<;>simp<;>omega
abbrev ablk(a:Aut):List AV:=[.sl 83 0 0 a.al.length 1,.int .i64 0,.nilsl,.nilsl]
theorem _root_.Go.AM.au11{p:Prop}(h:p:=by repeat(first|exact ZcB|(refine ZcC ?_ ?_;·(first|exact Zcr|exact Rn.x1 rfl rfl|exact Rn.x2 rfl rfl|exact Rn.x3 rfl rfl|exact Rn.x4 rfl rfl|exact Rn.x5 rfl|exact Rn.x6 rfl|exact Rn.x7 rfl|(refine ZcN ?_ ?_;(first|rfl|(rw[ZaF];rfl));(first|rfl|(simp only[noRef,noRefs,SD.Qaa,SD.Qab,SD.Qaf,SD.Qag,SD.Qah,SD.Qai,SD.Qaj,SD.Qam,SD.Qan,SD.Qar,SE.Qal,SE.Qao,SE.Qap,SE.Qaq,SE.Qay,SO.QaD,SO.QaP,SO.Qaz,Zad,Zae,Zai];done)))|(refine Rn.fn ?_ ?_<;>(repeat'(first|exact ZcJ|refine ZcK ?_ ?_|exact Zcs rfl|exact Rn.x6 rfl|exact Rn.x2 rfl rfl|exact Rn.x5 rfl|exact Rn.x1 rfl rfl))))))):p:=h
theorem _root_.Go.AM.au12{p:Prop}(h:p:=by repeat'(first|exact ZcD|(refine Zct ?_;first|rfl|(simp only[noRef,noRefs,SD.Qaa,SD.Qab,SD.Qaf,SD.Qag,SD.Qah,SD.Qai,SD.Qaj,SD.Qam,SD.Qan,SD.Qar,SE.Qal,SE.Qao,SE.Qap,SE.Qaq,SE.Qay,SO.QaD,SO.QaP,SO.Qaz,Zad,Zae,Zai];done))|exact ZcR rfl|exact ZcJ|exact(True.intro:RnM _ _ _ [] [])|refine ZcK ?_ ?_|(refine Zcs ?_;first|rfl|(simp only[noRef,noRefs,SD.Qaa,SD.Qab,SD.Qaf,SD.Qag,SD.Qah,SD.Qai,SD.Qaj,SD.Qam,SD.Qan,SD.Qar,SE.Qal,SE.Qao,SE.Qap,SE.Qaq,SE.Qay,SO.QaD,SO.QaP,SO.Qaz,Zad,Zae,Zai];done))|exact Rn.x1 rfl rfl|exact Rn.x2 rfl rfl|exact Rn.x3 rfl rfl|exact Rn.x4 rfl rfl|exact Rn.x5 rfl|exact Rn.x6 rfl|exact Rn.x7 rfl|refine ZcF rfl rfl ?_|refine ZcE rfl rfl rfl ?_ ?_|refine ZcG rfl rfl rfl ?_ ?_|refine ZcH rfl rfl ?_ ?_|refine ZcI rfl rfl ?_ ?_)):p:=h
theorem super54(a)(u)(l)(hw:WfA a)(hl:l.length=a.n)(hel:a.es.length<=1000000)(hul:u.length<=1000000):FSpec Tryz.prog 123 [pv a u l] (.tup [aV (ZR a (lf l)),ZN (sAll a (lf l)).1]):=by
 have hn5:=hw.n5;have hal:a.al.length<=32:=Qa1 32 a.al (by rw[ZaN];exact hw.al.imp fun h=>by omega) hw.al5;have hms:a.ms.length<=a.n:=Qa1 a.n a.ms hw.nd hw.msn;refine FSpec.of_wS 60 (Ok s123) rfl (by(try simp only[noRefs,Qal,Qao,Qaa,Qam,Qag,Qan,Qap,Qai,noRef,Zae,Zad])<;>rfl) (by simp only[noRef,noRefs,Qaa,Qag];rfl) ?_;unfold s123;refine Zc6 ?_;refine ch (ZcU (b:=83) (by(try simp only[noRefs,Qal,Qao,Qaa,Qam,Qag,Qan,Qap,Qai,noRef,Zae,Zad])<;>rfl) (clone56 a.al (by omega)) (by repeat(first|exact Fresh.e|exact Zcw (by assumption) (by omega)|refine Zcx ?_ (by omega) (by omega))) rfl) ?_;by_cases h0:a.n=0
 ·have e:sAll a (lf l)=([],[]):=by unfold sAll;rw[h0];rfl
  have h0':(a.n:Int)=0:=by omega
  refine Zc7 h0' ?_;exact bop71
 have h0':¬(a.n:Int)=0:=by omega
 have h0n:(0:Int)<(a.n:Int):=by omega
 have h0l:0<l.length:=by omega
 have hh0:(bls l).head?=some (.bool (lf l 0)):=by have:=Qba h0l;simpa using this
 by_cases hl0:lf l 0=true
 ·have hn':(a.n:Int)<=140737488355328:=by omega
  have hn24:(24:Int)*(a.n:Int)<=140737488355328:=by omega
  refine Zc7 (Zdd h0' h0n hh0 hl0 hn' hn24 @repN) ?_;have hrn:∀k∈List.range a.n,k<1000000:=fun k hk=>by have:=Zau.1 hk;omega
  refine Qas 100 (fun i:Nat=>[(0,pv a u l),(2,.ptr 60 0 0),(4,.ptr 69 0 0),(5,.sl 78 0 0 a.n 1),(48,egsN a.es),(49,.int .i64 a.es.length),(50,.int .i64 i)]) (fun i=>[(60,.cells 0 [.nilsl,.int .i64 0,.nilsl,.nilsl]),(69,.cells 0 (ablk a)),(83,.cells 0 (ZI (nz a.al))),(78,.cells 0 ((List.range a.n).map (ptrE (a.es.take i) (lf l))))]++rowsL (rowE (a.es.take i) (lf l)) (List.range a.n)) (fun i=>i<=a.es.length) (fun i=>a.es.length-i) 0 0 160 (fun _:Unit=>[(0,pv a u l),(2,.ptr 60 0 0),(4,.ptr 69 0 0),(5,.sl 78 0 0 a.n 1)]) (fun _=>[(60,.cells 0 [.nilsl,.int .i64 0,.nilsl,.nilsl]),(69,.cells 0 (ablk a)),(83,.cells 0 (ZI (nz a.al))),(78,.cells 0 ((List.range a.n).map (frzE a.es (lf l))))]) (fun _=>True) ?_ (Zaj _) ?_ ?_
  ·refine⟨[(60,.blk 60 0),(69,.blk 69 0),(83,.blk 83 0),(78,.blk 91 0)]++psL (fun _=>.nil) (List.range a.n),QdS (QcJ Za3 hrn (fun _ _ _ _ _ b g b' g' h=>by cases h)) rfl (by decide) (fun _ _ _ _ _ _ _ b g h=>by cases h),ZcA,?_,au11⟩;refine ZcE rfl rfl rfl (Zct rfl) (ZcE rfl rfl rfl ?_ (ZcE rfl rfl rfl (Zct (Qaa _)) (ZcE rfl rfl rfl (Qdh fun k hk=>Rn.x4 rfl (Qc0 hk (A:=[(60,.blk 60 0),(69,.blk 69 0),(83,.blk 83 0),(78,.blk 91 0)]) (by decide))) ?_)));·repeat'(first|exact ZcD|(refine Zct ?_;first|rfl|(simp only[noRef,noRefs,Qaf,Zae,Zad,Zai,Qaa,Qam,Qag,Qan,Qap,Qay,Qai,Qah,Qab,Qar,Qaj,Qal,Qao,Qaq];done))|exact ZcR rfl|exact ZcJ|exact(True.intro:RnM _ _ _ [] [])|refine ZcK ?_ ?_|(refine Zcs ?_;first|rfl|(simp only[noRef,noRefs,Qaf,Zae,Zad,Zai,Qaa,Qam,Qag,Qan,Qap,Qay,Qai,Qah,Qab,Qar,Qaj,Qal,Qao,Qaq];done))|exact Rn.x1 rfl rfl|exact Rn.x2 rfl rfl|exact Rn.x3 rfl rfl|exact Rn.x4 rfl rfl|exact Rn.x5 rfl|exact Rn.x6 rfl|exact Rn.x7 rfl|refine ZcF rfl rfl ?_|refine ZcE rfl rfl rfl ?_ ?_|refine ZcG rfl rfl rfl ?_ ?_|refine ZcH rfl rfl ?_ ?_|refine ZcI rfl rfl ?_ ?_)
   ·exact QcT fun k hk=>ZcF rfl (Qc0 hk (A:=[(60,.blk 60 0),(69,.blk 69 0),(83,.blk 83 0),(78,.blk 91 0)]) (by decide)) ZcD
  ·rintro i hi;have hr0:∀b,b<300->(hp (rowsL (rowE (a.es.take i) (lf l)) (List.range a.n))).get b=none:=fun b hb=>Qek hrn fun k hk=>by omega
   by_cases hlt:i<a.es.length
   ·obtain⟨e,he⟩:=Qak hlt;obtain⟨hfr,hto⟩:=hw.esn e (Zaa he);have hroom:∀k:Nat,k<a.n->(hp (rowsL (rowE (a.es.take i) (lf l)) (List.range a.n))).get (300+k)=some (.cells 0 (rowE (a.es.take i) (lf l) k)):=fun k hk=>Qcc Za3 hrn (Zau.2 hk);have hrow:=hroom e.1 hfr;have htl:e.2.2<l.length:=by omega
    have hstep:=QlH (left:=lf l) he;have hpl:=QcM (a.es.take i) (lf l) e.1;rw[Zap]at hpl;have hel2:=QbH (ZO (a.es.take i) (lf l) e.1);by_cases h1:lf l e.2.2=true
    ·refine Zc7 (Zde @ZaW @ZaT hlt (QaR he) hr0 hto (Qba htl) h1) ?_;refine QcU [(69,[300+e.1])] rfl ?_ ?_;·exact Qdq (a:=[103]) (b:=[123,300+e.1,122]) rfl rfl (fun x hx=>by simp only[Zav,Za2,or_false]at hx⊢;omega) QgS
     have hfr1:e.1+1<=a.n:=by omega
     simp(disch:=first|omega|exact PairsOK.mk rfl|(simp only[lenW]<;>omega))only[hr0,hfr,hrow,hel2,QgU hfr,QlC hfr,ZbH,hfr1,wW,wV,simprocAttr];refine⟨⟨⟨_,rfl,fun b hb=>hb⟩,trivial⟩,i+1,by omega,by omega,?_⟩;have hsb:∀k b g,(fun k=>if k=e.1 then Src.blk (300+e.1) 1 else Src.blk (300+k) 0) k=.blk b g->b=300+k:=by
      intro k b g h2;dsimp only at h2;split at h2<;>cases h2;·rename_i h3;rw[h3]
      ·rfl
     refine⟨[(60,.blk 60 0),(69,.blk 69 0),(83,.blk 83 0),(78,.blk 78 0)]++psL (fun k=>if k=e.1 then Src.blk (300+e.1) 1 else Src.blk (300+k) 0) (List.range a.n),QdS (A:=[(60,.blk 60 0),(69,.blk 69 0),(83,.blk 83 0),(78,.blk 78 0)]) (L:=[(60,_),(69,_),(83,_),(78,_)]) (QcJ Za3 hrn (fun k hk j hj hkj b g b' g' h1 h2=>?_)) rfl (by decide) (fun p hp b g hb k hk b' g' h1=>?_),ZcA,?_,au11⟩;·have :=hsb k b g h1;have:=hsb j b' g' h2;omega
     ·exact bmaGz
     refine ZcE rfl rfl gg (Zct rfl) (ZcE rfl rfl gg ?_ (ZcE rfl rfl gg (Zct (Qaa _)) (ZcE rfl rfl gg (Qdh fun k hk=>?_) (QcT fun k hk=>?_))));·repeat'(first|exact ZcD|(refine Zct ?_;first|rfl|(simp only[noRef,noRefs,Qaf,Zae,Zad,Zai,Qaa,Qam,Qag,Qan,Qap,Qay,Qai,Qah,Qab,Qar,Qaj,Qal,Qao,Qaq];done))|exact ZcR rfl|exact ZcJ|exact(True.intro:RnM _ _ _ [] [])|refine ZcK ?_ ?_|(refine Zcs ?_;first|rfl|(simp only[noRef,noRefs,Qaf,Zae,Zad,Zai,Qaa,Qam,Qag,Qan,Qap,Qay,Qai,Qah,Qab,Qar,Qaj,Qal,Qao,Qaq];done))|exact Rn.x1 rfl rfl|exact Rn.x2 rfl rfl|exact Rn.x3 rfl rfl|exact Rn.x4 rfl rfl|exact Rn.x5 rfl|exact Rn.x6 rfl|exact Rn.x7 rfl|refine ZcF rfl rfl ?_|refine ZcE rfl rfl rfl ?_ ?_|refine ZcG rfl rfl rfl ?_ ?_|refine ZcH rfl rfl ?_ ?_|refine ZcI rfl rfl ?_ ?_)
     ·have hw2:=Qc0 (s:=fun k=>if k=e.1 then Src.blk (300+e.1) 1 else Src.blk (300+k) 0) hk (A:=[(60,.blk 60 0),(69,.blk 69 0),(83,.blk 83 0),(78,.blk 78 0)]) (by decide);unfold updF ptrE;rw[hstep];by_cases h2:k=e.1;·subst h2;rw[if_pos rfl,if_pos ⟨rfl,h1⟩,Zag];exact Rn.x1 rfl (by rw[hw2];simp)
      ·rw[if_neg h2,if_neg (fun h3=>h2 h3.1.symm),Zas];exact Rn.x1 rfl (by rw[hw2];simp[h2])
     ·have hw2:=Qc0 (s:=fun k=>if k=e.1 then Src.blk (300+e.1) 1 else Src.blk (300+k) 0) hk (A:=[(60,.blk 60 0),(69,.blk 69 0),(83,.blk 83 0),(78,.blk 78 0)]) (by decide);have hkn:=Zau.1 hk;by_cases h2:k=e.1;·subst h2;refine ZcE rfl (b:=300+e.1) (g:=1) (by rw[hw2];simp) gg (RnL.eq ?_ (Qag _)) ZcD;unfold SE.rowE;rw[hstep,if_pos ⟨rfl,h1⟩,Zao];rfl
      ·refine ZcE rfl (b:=300+k) (g:=0) (ds:=SE.rowE (a.es.take i) (lf l) k) (by rw[hw2];simp[h2]) (by first|(simp(disch:=omega)only[QaA,QaH,Qa0,hroom k hkn];done)|(simp(disch:=omega)only[QaA,QaH,Qa0,hroom k hkn];rfl)) (RnL.eq ?_ (Qag _)) ZcD;unfold SE.rowE;rw[hstep,if_neg (fun h3=>h2 h3.1.symm),Zas]
    ·rw[Zam]at h1;refine Zc7 (Zde @ZaW @ZaT hlt (QaR he) hr0 hto (Qba htl) h1) ?_;refine⟨i+1,by omega,by omega,?_⟩;have hsb:∀k b g,(fun k=>Src.blk (300+k) 0) k=.blk b g->b=300+k:=by intro k b g h2;cases h2;rfl
     have hno:∀k,ZO (a.es.take (i+1)) (lf l) k=ZO (a.es.take i) (lf l) k:=fun k=>by rw[hstep,if_neg (by rw[h1];simp),Zas]
     refine⟨[(60,.blk 60 0),(69,.blk 69 0),(83,.blk 83 0),(78,.blk 78 0)]++psL (fun k=>Src.blk (300+k) 0) (List.range a.n),QdS (A:=[(60,.blk 60 0),(69,.blk 69 0),(83,.blk 83 0),(78,.blk 78 0)]) (L:=[(60,_),(69,_),(83,_),(78,_)]) (QcJ Za3 hrn (fun k hk j hj hkj b g b' g' h1 h2=>?_)) rfl (by decide) (fun p hp b g hb k hk b' g' h1=>?_),ZcA,?_,au11⟩;·have :=hsb k b g h1;have:=hsb j b' g' h2;omega
     ·exact bmaGz
     refine ZcE rfl rfl gg (Zct rfl) (ZcE rfl rfl gg ?_ (ZcE rfl rfl gg (Zct (Qaa _)) (ZcE rfl rfl gg (Qdh fun k hk=>?_) (QcT fun k hk=>?_))));·repeat'(first|exact ZcD|(refine Zct ?_;first|rfl|(simp only[noRef,noRefs,Qaf,Zae,Zad,Zai,Qaa,Qam,Qag,Qan,Qap,Qay,Qai,Qah,Qab,Qar,Qaj,Qal,Qao,Qaq];done))|exact ZcR rfl|exact ZcJ|exact(True.intro:RnM _ _ _ [] [])|refine ZcK ?_ ?_|(refine Zcs ?_;first|rfl|(simp only[noRef,noRefs,Qaf,Zae,Zad,Zai,Qaa,Qam,Qag,Qan,Qap,Qay,Qai,Qah,Qab,Qar,Qaj,Qal,Qao,Qaq];done))|exact Rn.x1 rfl rfl|exact Rn.x2 rfl rfl|exact Rn.x3 rfl rfl|exact Rn.x4 rfl rfl|exact Rn.x5 rfl|exact Rn.x6 rfl|exact Rn.x7 rfl|refine ZcF rfl rfl ?_|refine ZcE rfl rfl rfl ?_ ?_|refine ZcG rfl rfl rfl ?_ ?_|refine ZcH rfl rfl ?_ ?_|refine ZcI rfl rfl ?_ ?_)
     ·have hw2:=Qc0 (s:=fun k=>Src.blk (300+k) 0) hk (A:=[(60,.blk 60 0),(69,.blk 69 0),(83,.blk 83 0),(78,.blk 78 0)]) (by decide);unfold ptrE;rw[hno];exact Rn.x1 rfl hw2
     ·have hw2:=Qc0 (s:=fun k=>Src.blk (300+k) 0) hk (A:=[(60,.blk 60 0),(69,.blk 69 0),(83,.blk 83 0),(78,.blk 78 0)]) (by decide);have hkn:=Zau.1 hk;refine ZcE rfl (b:=300+k) (g:=0) (ds:=SE.rowE (a.es.take i) (lf l) k) hw2 (by first|(simp(disch:=omega)only[QaA,QaH,Qa0,hroom k hkn];done)|(simp(disch:=omega)only[QaA,QaH,Qa0,hroom k hkn];rfl)) (RnL.eq ?_ (Qag _)) ZcD;unfold SE.rowE;rw[hno]
   ·have e:i=a.es.length:=by omega
    subst e;refine Zc7 (Zc9 @ZaW @ZaT hlt) ?_;refine⟨(),[(60,.blk 60 0),(69,.blk 69 0),(83,.blk 83 0),(78,.blk 78 0)],rfl,ZcA,?_,au11⟩;refine ZcE rfl rfl gg (Zct rfl) (ZcE rfl rfl gg ?_ (ZcE rfl rfl gg (Zct (Qaa _)) (ZcE rfl rfl gg (Qdh fun k hk=>?_) ZcD)));·repeat'(first|exact ZcD|(refine Zct ?_;first|rfl|(simp only[noRef,noRefs,Qaf,Zae,Zad,Zai,Qaa,Qam,Qag,Qan,Qap,Qay,Qai,Qah,Qab,Qar,Qaj,Qal,Qao,Qaq];done))|exact ZcR rfl|exact ZcJ|exact(True.intro:RnM _ _ _ [] [])|refine ZcK ?_ ?_|(refine Zcs ?_;first|rfl|(simp only[noRef,noRefs,Qaf,Zae,Zad,Zai,Qaa,Qam,Qag,Qan,Qap,Qay,Qai,Qah,Qab,Qar,Qaj,Qal,Qao,Qaq];done))|exact Rn.x1 rfl rfl|exact Rn.x2 rfl rfl|exact Rn.x3 rfl rfl|exact Rn.x4 rfl rfl|exact Rn.x5 rfl|exact Rn.x6 rfl|exact Rn.x7 rfl|refine ZcF rfl rfl ?_|refine ZcE rfl rfl rfl ?_ ?_|refine ZcG rfl rfl rfl ?_ ?_|refine ZcH rfl rfl ?_ ?_|refine ZcI rfl rfl ?_ ?_)
    ·have hkn:=Zau.1 hk;have hr:=Qcc (f:=SE.rowE a.es (lf l)) Za3 hrn hk;have b1:Nat.beq (300+k) 60=false:=by rw[ZaI];simp;try omega
     have b2:Nat.beq (300+k) 69=false:=by rw[ZaI];simp;try omega
     have b3:Nat.beq (300+k) 83=false:=by rw[ZaI];simp;try omega
     have b4:Nat.beq (300+k) 78=false:=by rw[ZaI];simp;try omega
     exact ZcL (by first|(simp(disch:=omega)only[QaA,QaH,Qa0,hr];done)|(simp(disch:=omega)only[QaA,QaH,Qa0,hr];rfl)) (by simp[srcNew,b1,b2,b3,b4]) (by simp) rfl (QbH _) (Zct (Qag _))
  rintro _ _;refine Zc6 ?_;refine Qbe ?_;refine Zc6 ?_;refine Qbz (x:=0) (f:=numF [0]) (l:=[]) (by simp) (by decide) ?_;refine Zc6 ?_;have hms0:mks a 0 [0]=[]:=rfl;have hsi:SI a.n a.es (lf l) 0 (([0],[]):OE):=by refine⟨⟨by simp,fun x hx=>by simp at hx;omega⟩,fun x hx=>by simp at hx;subst hx;exact hl0,Zaj _,fun j v hj=>by omega,by simp⟩
  have hq0:sQ a.es (lf l) (a.n+1) 0 ([0],[])=sAll a (lf l):=by unfold sAll;rw[hl0,Zad,if_pos (by simp;omega)]
  refine Qas 180 (fun t:Nat×OE=>[(0,pv a u l),(2,.ptr 60 0 0),(4,.ptr 69 0 0),(5,.sl 78 0 0 a.n 1),(8,.map 74 0),(9,.sl 75 0 0 t.2.1.length 1),(10,.int .i64 t.1)]) (fun t=>[(60,.cells 0 [.nilsl,.int .i64 0,.nilsl,.nilsl]),(69,.cells 0 [.sl 83 0 0 a.al.length 1,.int .i64 0,.sl 77 0 0 (mks a t.1 t.2.1).length 1,.sl 76 0 0 t.2.2.length 3]),(83,.cells 0 (ZI (nz a.al))),(78,.cells 0 ((List.range a.n).map (frzE a.es (lf l)))),(74,.map 0 (mapF .i64 (numF t.2.1) t.2.1)),(75,.cells 0 (ZI (nz t.2.1))),(76,.cells 0 (t.2.2.flatMap edC)),(77,.cells 0 (ZI (nz (mks a t.1 t.2.1))))]) (fun t=>t.1<=a.n/\SI a.n a.es (lf l) t.1 t.2/\t.2.2.length<=t.1*1000000/\sQ a.es (lf l) (a.n+1-t.1) t.1 t.2=sAll a (lf l)) (fun t=>a.n+1-t.1) (0,([0],[])) 2 260 (fun _:Unit=>[(2,.ptr 60 0 0),(4,.ptr 69 0 0),(9,.sl 75 0 0 (sAll a (lf l)).1.length 1)]) (fun _=>[(60,.cells 0 [.nilsl,.int .i64 0,.nilsl,.nilsl]),(69,.cells 0 [.sl 83 0 0 a.al.length 1,.int .i64 0,.sl 77 0 0 (ZR a (lf l)).ms.length 1,.sl 76 0 0 (ZR a (lf l)).es.length 3]),(83,.cells 0 (ZI (nz a.al))),(75,.cells 0 (ZI (nz (sAll a (lf l)).1))),(76,.cells 0 ((ZR a (lf l)).es.flatMap edC)),(77,.cells 0 (ZI (nz (ZR a (lf l)).ms)))]) (fun _=>True) ?_ ⟨Zaj _,hsi,Zaj _,hq0⟩ ?_ ?_
  ·dsimp only;rw[hms0];refine⟨[(60,.blk 60 0),(69,.blk 69 0),(83,.blk 83 0),(78,.blk 78 0),(74,.blk 160 0),(75,.blk 164 0),(76,.nil),(77,.nil)],rfl,ZcA,?_,au11⟩;repeat'(first|exact ZcD|(refine Zct ?_;first|rfl|(simp only[noRef,noRefs,Qaf,Zae,Zad,Zai,Qaa,Qam,Qag,Qan,Qap,Qay,Qai,Qah,Qab,Qar,Qaj,Qal,Qao,Qaq];done))|exact ZcR rfl|exact ZcJ|exact(True.intro:RnM _ _ _ [] [])|refine ZcK ?_ ?_|(refine Zcs ?_;first|rfl|(simp only[noRef,noRefs,Qaf,Zae,Zad,Zai,Qaa,Qam,Qag,Qan,Qap,Qay,Qai,Qah,Qab,Qar,Qaj,Qal,Qao,Qaq];done))|exact Rn.x1 rfl rfl|exact Rn.x2 rfl rfl|exact Rn.x3 rfl rfl|exact Rn.x4 rfl rfl|exact Rn.x5 rfl|exact Rn.x6 rfl|exact Rn.x7 rfl|refine ZcF rfl rfl ?_|refine ZcE rfl rfl rfl ?_ ?_|refine ZcG rfl rfl rfl ?_ ?_|refine ZcH rfl rfl ?_ ?_|refine ZcI rfl rfl ?_ ?_)
   refine ZcW (l:=[0]) fun x hx=>?_;have:x=0:=by simpa using hx
   subst this;exact Zcs rfl
  ·rintro⟨i,s⟩⟨hi,hsi,hsl,hq⟩;dsimp only at hi hsi hsl hq⊢;have hfl:=hsi.fi.len;have hile:=hsi.le;by_cases hlt:i<s.1.length
   ·obtain⟨v,hv⟩:=Qak hlt;have hvn:=hsi.fi.lt v (Zaa hv);have hin':i<a.n:=by omega
    have hsi':=hsi.step hw.esn hv;have hq':sQ a.es (lf l) (a.n+1-(i+1)) (i+1) (sRow a.es (lf l) i v s)=sAll a (lf l):=by rw[<-hq,show a.n+1-i=(a.n+1-(i+1))+1 by omega];simp only[sQ,hv]
    have hol:=QcM a.es (lf l) v;have hrow:=fun j=>Qc5 (n:=a.n) (left:=lf l) i ((ZO a.es (lf l) v).take j) s (fun e he=>⟨(hw.esn e (QaV.1 (ZaX he)).1).2,(QaV.1 (ZaX he)).2.2⟩) hsi.fi hsi.lft;have hmsl:=@Qfy a i s.1;have hmsk:∀j,mks a i (((ZO a.es (lf l) v).take j).foldl (sEd i) s).1=mks a i s.1:=fun j=>by obtain⟨_,_,⟨t,ht⟩,_⟩:=hrow j;rw[ht,Qkf hile]
    generalize hmm:mks a i s.1=M at*;simp(disch:=first|omega|exact PairsOK.mk rfl|(simp only[lenW]<;>omega))only[hlt,QbG (nz_at hv),hvn,QiD hvn,wW,wV,simprocAttr];refine Qas 300 (fun j:Nat=>[(90,egsN (ZO a.es (lf l) v)),(91,.int .i64 (ZO a.es (lf l) v).length),(0,pv a u l),(2,.ptr 60 0 0),(4,.ptr 69 0 0),(5,.sl 78 0 0 a.n 1),(8,.map 74 0),(9,.sl 75 0 0 (((ZO a.es (lf l) v).take j).foldl (sEd i) s).1.length 1),(10,.int .i64 i),(92,.int .i64 j)]) (fun j=>[(60,.cells 0 [.nilsl,.int .i64 0,.nilsl,.nilsl]),(69,.cells 0 [.sl 83 0 0 a.al.length 1,.int .i64 0,.sl 77 0 0 M.length 1,.sl 76 0 0 (((ZO a.es (lf l) v).take j).foldl (sEd i) s).2.length 3]),(83,.cells 0 (ZI (nz a.al))),(78,.cells 0 ((List.range a.n).map (frzE a.es (lf l)))),(74,.map 0 (mapF .i64 (numF (((ZO a.es (lf l) v).take j).foldl (sEd i) s).1) (((ZO a.es (lf l) v).take j).foldl (sEd i) s).1)),(75,.cells 0 (ZI (nz (((ZO a.es (lf l) v).take j).foldl (sEd i) s).1))),(76,.cells 0 ((((ZO a.es (lf l) v).take j).foldl (sEd i) s).2.flatMap edC)),(77,.cells 0 (ZI (nz M)))]) (fun j=>j<=(ZO a.es (lf l) v).length) (fun j=>(ZO a.es (lf l) v).length-j) 0 4 400 (fun _:Unit=>[(0,pv a u l),(2,.ptr 60 0 0),(4,.ptr 69 0 0),(5,.sl 78 0 0 a.n 1),(8,.map 74 0),(9,.sl 75 0 0 (sRow a.es (lf l) i v s).1.length 1),(10,.int .i64 i)]) (fun _=>[(60,.cells 0 [.nilsl,.int .i64 0,.nilsl,.nilsl]),(69,.cells 0 [.sl 83 0 0 a.al.length 1,.int .i64 0,.sl 77 0 0 M.length 1,.sl 76 0 0 (sRow a.es (lf l) i v s).2.length 3]),(83,.cells 0 (ZI (nz a.al))),(78,.cells 0 ((List.range a.n).map (frzE a.es (lf l)))),(74,.map 0 (mapF .i64 (numF (sRow a.es (lf l) i v s).1) (sRow a.es (lf l) i v s).1)),(75,.cells 0 (ZI (nz (sRow a.es (lf l) i v s).1))),(76,.cells 0 ((sRow a.es (lf l) i v s).2.flatMap edC)),(77,.cells 0 (ZI (nz M)))]) (fun _=>True) ?_ (Zaj _) ?_ ?_
    ·exact b2PdR
    ·rintro j hj;by_cases hjl:j<(ZO a.es (lf l) v).length
     ·obtain⟨e,he⟩:=Qak hjl;have hem:=QaV.1 (Zaa he);have hto:=(hw.esn e hem.1).2;obtain⟨k1,_,_,_,_⟩:=hrow j;have hfi:=k1.len;have hnd:=k1.nd;have hstep:=QgV (i:=i) (s:=s) he;have hsl2:=Qcx (i:=i) ((ZO a.es (lf l) v).take j) s;rw[Zap]at hsl2;generalize((ZO a.es (lf l) v).take j).foldl (sEd i) s=t at*;have hel2:=QbH t.2;by_cases hc:e.2.2∈t.1
      ·have h2:sEd i t e=(t.1,t.2++[(i,e.2.1,idx t.1 e.2.2)]):=if_pos (by simpa using hc);rw[h2]at hstep;refine Zc7 (Zc8 hjl (QaR he)) ?_;refine Qci ?_;refine Zc6 ?_;refine wK_in hc ?_;refine Zc7 hel2 ?_;refine⟨j+1,by omega,by omega,?_⟩;rw[hstep,Zao,Zag];refine⟨[(60,.blk 60 0),(69,.blk 69 0),(83,.blk 83 0),(78,.blk 78 0),(74,.blk 74 0),(75,.blk 75 0),(76,.blk 76 1),(77,.blk 77 0)],rfl,au0,?_,au11⟩;repeat'(first|exact ZcD|(refine Zct ?_;first|rfl|(simp only[noRef,noRefs,Qaf,Zae,Zad,Zai,Qaa,Qam,Qag,Qan,Qap,Qay,Qai,Qah,Qab,Qar,Qaj,Qal,Qao,Qaq];done))|exact ZcR rfl|exact ZcJ|exact(True.intro:RnM _ _ _ [] [])|refine ZcK ?_ ?_|(refine Zcs ?_;first|rfl|(simp only[noRef,noRefs,Qaf,Zae,Zad,Zai,Qaa,Qam,Qag,Qan,Qap,Qay,Qai,Qah,Qab,Qar,Qaj,Qal,Qao,Qaq];done))|exact Rn.x1 rfl rfl|exact Rn.x2 rfl rfl|exact Rn.x3 rfl rfl|exact Rn.x4 rfl rfl|exact Rn.x5 rfl|exact Rn.x6 rfl|exact Rn.x7 rfl|refine ZcF rfl rfl ?_|refine ZcE rfl rfl rfl ?_ ?_|refine ZcG rfl rfl rfl ?_ ?_|refine ZcH rfl rfl ?_ ?_|refine ZcI rfl rfl ?_ ?_)
       exact ZcW fun x _=>Zcs rfl
      ·have h2:sEd i t e=(t.1++[e.2.2],t.2++[(i,e.2.1,t.1.length)]):=if_neg (by simpa using hc);rw[h2]at hstep;refine Zc7 (Zc8 hjl (QaR he)) ?_;refine Qci ?_;refine Zc6 ?_;refine Qnn hc ?_;refine Zc7 hel2 ?_;refine Qbe ?_;refine Zc6 ?_;refine Qbz hc (by decide) ?_;have hm:mapF .i64 (updF (numF t.1) e.2.2 (.int .i64 (t.1.length:Int))) (t.1++[e.2.2])=mapF .i64 (numF (t.1++[e.2.2])) (t.1++[e.2.2]):=by
        refine Qjv fun x hx=>?_;unfold updF numF;split;·rename_i hx2;subst hx2;rw[QdM hc]
        ·rename_i hx2;have:x∈t.1:=by
          rcases ZaE.1 hx with h3|h3;·exact h3
          ·exact absurd (by simpa using h3) hx2
         rw[Qde this]
       refine Zc7 (Zc8 hm hel2) ?_;refine⟨j+1,by omega,by omega,?_⟩;rw[hstep,Zao,Zag];dsimp only;rw[Zag,QaM,QaB];refine⟨[(60,.blk 60 0),(69,.blk 69 0),(83,.blk 83 0),(78,.blk 78 0),(74,.blk 74 0),(75,.blk 75 1),(76,.blk 76 1),(77,.blk 77 0)],rfl,au0,?_,au11⟩;repeat'(first|exact ZcD|(refine Zct ?_;first|rfl|(simp only[noRef,noRefs,Qaf,Zae,Zad,Zai,Qaa,Qam,Qag,Qan,Qap,Qay,Qai,Qah,Qab,Qar,Qaj,Qal,Qao,Qaq];done))|exact ZcR rfl|exact ZcJ|exact(True.intro:RnM _ _ _ [] [])|refine ZcK ?_ ?_|(refine Zcs ?_;first|rfl|(simp only[noRef,noRefs,Qaf,Zae,Zad,Zai,Qaa,Qam,Qag,Qan,Qap,Qay,Qai,Qah,Qab,Qar,Qaj,Qal,Qao,Qaq];done))|exact Rn.x1 rfl rfl|exact Rn.x2 rfl rfl|exact Rn.x3 rfl rfl|exact Rn.x4 rfl rfl|exact Rn.x5 rfl|exact Rn.x6 rfl|exact Rn.x7 rfl|refine ZcF rfl rfl ?_|refine ZcE rfl rfl rfl ?_ ?_|refine ZcG rfl rfl rfl ?_ ?_|refine ZcH rfl rfl ?_ ?_|refine ZcI rfl rfl ?_ ?_)
       exact ZcW fun x _=>Zcs rfl
     ·have e:j=(ZO a.es (lf l) v).length:=by omega
      subst e;refine Zc7 hjl ?_;refine⟨(),?_⟩;exact b2PdR
    rintro _ _;have hfull:=hmsk (ZO a.es (lf l) v).length;rw[Zan]at hfull;have hfull:mks a i (sRow a.es (lf l) i v s).1=M:=hfull;have hv':(sRow a.es (lf l) i v s).1[i]?=some v:=by obtain⟨_,_,⟨t,ht⟩,_⟩:=hrow (ZO a.es (lf l) v).length;rw[Zan]at ht;have ht:(sRow a.es (lf l) i v s).1=s.1++t:=ht;rw[ht,ZaP hlt];exact hv
    have hmn:=QfZ (a:=a) hv';rw[hfull]at hmn;have hsl3:(sRow a.es (lf l) i v s).2.length=s.2.length+(ZO a.es (lf l) v).length:=Qcx _ _;have hfi':=hsi'.fi.len;have hii:i<(sRow a.es (lf l) i v s).1.length:=(Zaf.1 hv').1;generalize hrr:sRow a.es (lf l) i v s=R at*;have hc:=contains62 (nz a.ms) v (by simp;omega);rw[QbE,QeU]at hc;by_cases hmv:a.ms.contains v=true
    ·rw[if_pos hmv]at hmn;rw[hmv]at hc;refine Zc7 (Zc8 hii (QbG (nz_at hv'))) ?_;refine cp hc ?_;refine Zc6 ?_;refine⟨(i+1,R),by dsimp only;omega,⟨hin',hsi',by dsimp only;omega,hq'⟩,?_⟩;dsimp only;rw[hmn,Zag,QaM,QaB];refine⟨[(60,.blk 60 0),(69,.blk 69 0),(83,.blk 83 0),(78,.blk 78 0),(74,.blk 74 0),(75,.blk 75 0),(76,.blk 76 0),(77,.blk 77 1)],rfl,au0,?_,au11⟩;repeat'(first|exact ZcD|(refine Zct ?_;first|rfl|(simp only[noRef,noRefs,Qaf,Zae,Zad,Zai,Qaa,Qam,Qag,Qan,Qap,Qay,Qai,Qah,Qab,Qar,Qaj,Qal,Qao,Qaq];done))|exact ZcR rfl|exact ZcJ|exact(True.intro:RnM _ _ _ [] [])|refine ZcK ?_ ?_|(refine Zcs ?_;first|rfl|(simp only[noRef,noRefs,Qaf,Zae,Zad,Zai,Qaa,Qam,Qag,Qan,Qap,Qay,Qai,Qah,Qab,Qar,Qaj,Qal,Qao,Qaq];done))|exact Rn.x1 rfl rfl|exact Rn.x2 rfl rfl|exact Rn.x3 rfl rfl|exact Rn.x4 rfl rfl|exact Rn.x5 rfl|exact Rn.x6 rfl|exact Rn.x7 rfl|refine ZcF rfl rfl ?_|refine ZcE rfl rfl rfl ?_ ?_|refine ZcG rfl rfl rfl ?_ ?_|refine ZcH rfl rfl ?_ ?_|refine ZcI rfl rfl ?_ ?_)
     exact ZcW fun x _=>Zcs rfl
    ·rw[if_neg hmv,Zas]at hmn;rw[Zam]at hmv;rw[hmv]at hc;refine Zc7 (Zc8 hii (QbG (nz_at hv'))) ?_;refine cp hc ?_;refine Zc6 ?_;refine⟨(i+1,R),by dsimp only;omega,⟨hin',hsi',by dsimp only;omega,hq'⟩,?_⟩;dsimp only;rw[hmn];exact b2PdR
   ·have hv:s.1[i]?=none:=ZaG (by omega);have hqf:s=sAll a (lf l):=by rw[<-hq,show a.n+1-i=(a.n-i)+1 by omega];simp only[sQ,hv]
    have hil:i=s.1.length:=by omega
    have hmf:mks a i s.1=(ZR a (lf l)).ms:=by rw[hil,hqf];rfl
    have hef:s.2=(ZR a (lf l)).es:=by rw[hqf];rfl
    refine Zc7 hlt ?_;refine⟨(),?_⟩;rw[hmf,hef,<-hqf];exact⟨[(60,.blk 60 0),(69,.blk 69 0),(83,.blk 83 0),(75,.blk 75 0),(76,.blk 76 0),(77,.blk 77 0)],rfl,au0,au12,au11⟩
  rintro _ _;have hra:(ZR a (lf l)).al=a.al:=rfl;have hrn2:(ZR a (lf l)).n=(sAll a (lf l)).1.length:=rfl;refine Zc6 ?_;refine⟨.inr trivial,_,rfl,?_⟩;refine RnO.tup (ZcO (RnO.agg (ZcO (RnO.slm (g:=0) rfl rfl rfl (QcK _) (by simp[ZI,hra])) (ZcO (RnO.flat rfl) (ZcO (RnO.slm (g:=0) rfl rfl rfl (QcK _) (by simp[ZI])) (ZcO (RnO.slm (g:=0) rfl rfl rfl (QuQ _) (QbH _)) RnOL.nil))))) (ZcO (RnO.slm (g:=0) rfl rfl rfl (QcK _) (by simp[ZI])) RnOL.nil))
 ·rw[Zam]at hl0;have e:sAll a (lf l)=([],[]):=by unfold sAll;rw[hl0,Bool.and_false,if_neg (by decide)];unfold sQ;rfl
  refine Zc7 (Zda h0' h0n hh0 hl0) ?_;exact bop71
end Go.AM.SE
