/- Part of a proof. -/
import Derived.Test.YtaipiecplldinaaGreatF5
import Derived.Test.YtaipiecplldinaaGreatF3
import Derived.Test.YtaipiecplldinaaGreatF4
import Derived.Test.YtaipiecplldinaaGreatF1
import Derived.Test.YtaipiecplldinaaGreatF2
import Derived.Lib.ReflectliteSwap
import Derived.Laws.Externs
set_option maxRecDepth 20000
set_option linter.unusedSimpArgs false
set_option linter.unusedVariables false
namespace Go.Proofs.YtaipiecplldinaaGreat
open Go.ay Go.Kb
instance (i:Int)(s:Sv):yg Tryz.prog 102 [(0, .int .i64 i),(1,s.val)] (.agg #[.int .i64 i,s.val]):=⟨fun w=>by
 obtain⟨n,b,o,l,c⟩:=s
 cases n<;>kernel_rfl⟩
theorem XI(w:World)(s:Sl (Sl UInt8))(i:Nat)(hs:Deep.bh (hp w) s):Calls Tryz.prog 114 #[s.sv.val, .int .i64 (i:Nat)] w fun e w'=>e= .returned (((pJ s i).sv).val)∧Mem w [] w':=by
 have vb:cC w s:=⟨hs⟩
 refine bf (args:=[_,_]) Tryz.func114 rfl Tryz.ntmps114 rfl ?_
 change Cw _ _ _ _ _ [(0,s.sv.val),(1, .int .i64 (i:Nat))] []
 refine aP ?_
 refine aZ ?_
 refine ah (bn rfl) ?_
 refine aY ?_
 refine aO ?_
 refine aP ?_
 refine aP ?_
 refine aZ ?_
 refine ah (aF rfl) ?_
 refine ah (aF rfl) ?_
 refine ah (kZ rfl) ?_
 refine ah (cz rfl rfl rfl) ?_
 refine aY ?_
 refine aO ?_
 refine av rfl (fun h0=> ?_) (fun h0=> ?_)
 ·
  try simp only[Z0,Z1,Z2,Z3,Z4,Z5,Z6,Z7,Z8,Z9]at h0
  refine aP ?_
  refine aZ ?_
  refine ah (bn rfl) ?_
  refine aY ?_
  refine aO ?_
  refine eu ?_
  refine fj ?_
  refine au (.inl rfl) (aM rfl (aq rfl)) (fun w1 hw=> ?_)
  exact⟨by rw[AL (by omega)];rfl,ai.mem hw⟩
 ·
  try simp only[Z0,Z1,Z2,Z3,Z4,Z5,Z6,Z7,Z8,Z9]at h0
  refine fW ?_
  refine aO ?_
  refine aP ?_
  refine aZ ?_
  refine ah (aF rfl) ?_
  refine ah (aF rfl) ?_
  obtain⟨u,hu⟩:=get_some (xs:=s.xs) (i:=i) (by omega)
  refine ah (bl rfl rfl i rfl (by omega)) ?_
  refine ah (bO (j:=0) rfl i hu rfl (by decide)) ?_
  have ah7:Mb u _:=⟨List.mem_of_getElem? hu⟩
  refine ah (bn rfl) ?_
  refine aY ?_
  refine aO ?_
  refine eu ?_
  refine au (.inl rfl) (aM rfl (aq rfl)) (fun w1 hw=> ?_)
  exact⟨by rw[AK hu],ai.mem hw⟩
instance ah8{w0:World}{L:List aj}{s:Sl (Sl UInt8)}{i:Nat}[hs:aW w0 L s]:cL Tryz.prog 114 w0 L [s.sv.val, .int .i64 (i:Nat)] (((pJ s i).sv).val) (True):=⟨fun hp w hw=>XI w s i (hs.h w hw)⟩
theorem XJ(w:World)(x:Sv)(xs:List UInt8)(y:Sv)(ys:List UInt8)(hx:bV aN 1 (hp w) x xs)(hy:bV aN 1 (hp w) y ys):Calls Tryz.prog 115 #[x.val,y.val] w fun e w'=>e= .returned (.bool (decide (xs=ys)))∧Mem w [] w':=by
 have xe:Gv w x aN 1 xs:=⟨hx⟩
 have L3:Gv w y aN 1 ys:=⟨hy⟩
 refine bf (args:=[_,_]) Tryz.func115 rfl Tryz.ntmps115 rfl ?_
 change Cw _ _ _ _ _ [(0,x.val),(1,y.val)] []
 refine aP ?_
 refine aZ ?_
 refine ah (bn rfl) ?_
 refine aY ?_
 refine aO ?_
 refine aP ?_
 refine aZ ?_
 refine ah (aF rfl) ?_
 refine ah (AI Tryz.underlying38 Tryz.underlying5 Tryz.underlying9 rfl) ?_
 refine ah (aF rfl) ?_
 refine ah (AI Tryz.underlying38 Tryz.underlying5 Tryz.underlying9 rfl) ?_
 refine ah (Qd rfl rfl) ?_
 refine ah (bn rfl) ?_
 refine aY ?_
 refine aO ?_
 refine eu ?_
 refine au (.inl rfl) (aM rfl (aq rfl)) (fun w1 hw=> ?_)
 exact⟨congrArg (fun b=>Ending.returned (Value.bool b)) (rfl),ai.mem hw⟩
instance ah9{w0:World}{L:List aj}{x:Sv}{xs:List UInt8}{y:Sv}{ys:List UInt8}[hx:c6 w0 L aN 1 x xs][hy:c6 w0 L aN 1 y ys]:cL Tryz.prog 115 w0 L [x.val,y.val] (.bool (decide (xs=ys))) (True):=⟨fun hp w hw=>XJ w x xs y ys (hx.h w hw) (hy.h w hw)⟩
theorem XK(w:World)(x:Sv)(xs:List UInt8)(hx:bV aN 1 (hp w) x xs)(bc:xs.length≤140737488355328):Calls Tryz.prog 110 #[x.val] w fun e w'=> ∃zz:Sv,e= .returned (zz.val)∧(True)∧Mem w [own aN 1 zz xs] w':=by
 have xe:Gv w x aN 1 xs:=⟨hx⟩
 refine bf (args:=[_]) Tryz.func110 rfl Tryz.ntmps110 rfl ?_
 change Cw _ _ _ _ _ [(0,x.val)] []
 refine aP ?_
 refine aZ ?_
 refine ah (bn rfl) ?_
 refine aY ?_
 refine aO ?_
 refine aP ?_
 refine aP ?_
 refine aZ ?_
 refine ah (aF rfl) ?_
 refine ah (rD Tryz.underlying38 rfl) ?_
 refine aY ?_
 refine aO ?_
 refine av rfl (fun h0=> ?_) (fun h0=> ?_)
 ·
  try simp only[Z0,Z1,Z2,Z3,Z4,Z5,Z6,Z7,Z8,Z9]at h0
  have e0:xs=[]:=List.length_eq_zero_iff.1 (by have:=hx.ok.nil h0;have:=hx.len;omega)
  refine aP ?_
  refine aZ ?_
  refine ah (bn rfl) ?_
  refine aY ?_
  refine aO ?_
  refine eu ?_
  refine fj ?_
  refine au (.inl rfl) (aM rfl (aq rfl)) (fun w1 hw=> ?_)
  exact⟨Sv.none,rfl,trivial,by rw[e0];exact(ai.mem hw:Mem w [] _).dI aN 1⟩
 ·
  try simp only[Z0,Z1,Z2,Z3,Z4,Z5,Z6,Z7,Z8,Z9]at h0
  refine fW ?_
  refine aO ?_
  refine aP ?_
  refine aZ ?_
  refine sL aN fun b5=> ?_
  refine ah (aF rfl) ?_
  refine lN (s:=⟨false,b5,0,0,0,none⟩) (ys:=xs) rfl rfl (by decide) (fun w hw=>kI (s:=x) Tryz.underlying38 (by decide) ((inferInstance:Hd _ _ x aN 1 xs).h w hw)) (by simp only[List.length_append,List.length_cons,List.length_nil];omega) (by simp only[List.length_append,List.length_cons,List.length_nil];omega) fun s7 vc tn=> ?_
  refine ah (bn rfl) ?_
  refine aY ?_
  refine aO ?_
  refine eu ?_
  refine au (.inl rfl) (aM rfl (aq rfl)) (fun w1 hw=> ?_)
  exact⟨s7,rfl,trivial,by simpa using hw⟩
instance aia{w0:World}{L:List aj}{x:Sv}{xs:List UInt8}[hx:c6 w0 L aN 1 x xs]:cr Tryz.prog 110 w0 L [x.val] (Sv) (fun zz=>zz.val) (fun zz=>own aN 1 zz xs::L) (fun zz=>True) (xs.length≤140737488355328):=⟨fun hp w hw=>(XK w x xs (hx.h w hw) hp).mono fun e w' ⟨x,h1,h2,h3⟩=>⟨x,h1,h2,hw.call h3⟩⟩
theorem XL(w:World)(a:Sl (Sl UInt8))(b:Sl (Sl UInt8))(ha:Deep.bh (hp w) a)(hb:Deep.bh (hp w) b)(bc:a.xs.length≤1000000∧b.xs.length≤1000000∧ ∀x∈b.xs,x.xs.length≤140737488355328):Calls Tryz.prog 77 #[a.sv.val,b.sv.val] w fun e w'=> ∃zz:Sl It,e= .returned (zz.sv.val)∧(ux zz=eJ (lx a) (lx b))∧Mem w [Deep.ck zz] w':=by
 have Cf:cC w a:=⟨ha⟩
 have ve:cC w b:=⟨hb⟩
 obtain⟨oo,rU,wU⟩:=bc
 refine bf (args:=[_,_]) Tryz.func77 rfl Tryz.ntmps77 rfl ?_
 change Cw _ _ _ _ _ [(0,a.sv.val),(1,b.sv.val)] []
 refine aP ?_
 refine aZ ?_
 refine ah (bn rfl) ?_
 refine aY ?_
 refine aO ?_
 refine aP ?_
 refine aZ ?_
 refine ah (bn rfl) ?_
 refine aY ?_
 refine aO ?_
 refine aP ?_
 refine aP ?_
 refine aZ ?_
 refine ah (aF rfl) ?_
 refine ah (kZ rfl) ?_
 refine ah (aF rfl) ?_
 refine ah (kZ rfl) ?_
 refine ah (ud rfl rfl) ?_
 refine ah (aF rfl) ?_
 refine aY ?_
 refine aO ?_
 refine lr ?_
 refine cg (X:=Nat×Sl It) (fun zz=>[(13, .int .i64 (zz.1:Nat)),(5,zz.2.sv.val),(0,a.sv.val),(1,b.sv.val),(12, .int .i64 (max (a.xs.length:Int) (b.xs.length:Int)))]) (fun zz=>[Deep.ck zz.2]) (fun zz=>zz.1≤max a.xs.length b.xs.length∧ux zz.2=lX (lx a) (lx b) zz.1) (fun zz=>max a.xs.length b.xs.length -zz.1) (0,⟨Sv.none,[]⟩) ⟨by first|omega|(simp only[];omega),rfl⟩ (Sub.cons rfl (Sub.cons rfl (Sub.cons rfl (Sub.cons rfl (Sub.cons rfl (Sub.nil _)))))) (fun w hw=>Mem.AJ (enc:=ni) (c:=2) hw) ?_
 rintro⟨i,l⟩ ⟨bk,aG⟩
 dsimp only
 refine aP ?_
 refine aZ ?_
 refine ah (cz rfl rfl rfl) ?_
 refine aY ?_
 refine aO ?_
 refine aP ?_
 refine av rfl (fun h0=> ?_) (fun h0=> ?_)
 ·
  try simp only[Z0,Z1,Z2,Z3,Z4,Z5,Z6,Z7,Z8,Z9]at h0
  refine fW ?_
  refine aO ?_
  refine aP ?_
  refine lr ?_
  refine aP ?_
  refine aZ ?_
  refine ah (aF rfl) ?_
  refine ah (bn rfl) ?_
  refine aY ?_
  refine aO ?_
  refine aP ?_
  refine aZ ?_
  refine ah (aF rfl) ?_
  refine ah (aF rfl) ?_
  refine fE (cM rfl trivial) ?_
  refine ah (bn rfl) ?_
  refine aY ?_
  refine aO ?_
  refine aP ?_
  refine aZ ?_
  refine ah (aF rfl) ?_
  refine ah (aF rfl) ?_
  refine fE (cM rfl trivial) ?_
  refine ah (aF rfl) ?_
  refine fE (cM rfl trivial) ?_
  refine ah (iu rfl) ?_
  refine aY ?_
  refine aO ?_
  refine av rfl (fun h1=> ?_) (fun h1=> ?_)
  ·
   try simp only[Z0,Z1,Z2,Z3,Z4,Z5,Z6,Z7,Z8,Z9]at h1
   refine aZ ?_
   refine ah (aF rfl) ?_
   refine ah (aF rfl) ?_
   refine ah (aF rfl) ?_
   refine br rfl (by rcases Nat.lt_or_ge i b.xs.length with h|h;exact wU _ (by rw[AK (List.getElem?_eq_getElem h)];exact List.getElem_mem h);rw[AL h];exact Nat.zero_le _) fun dw mc=> ?_
   refine ah (sA rfl) ?_
   refine oK (enc:=ni) (vals:=[_]) [(⟨((i:Nat):Int),⟨dw,((pJ b i).xs)⟩⟩:It)] rfl rfl rfl (by decide) (by decide) fun fM=> ?_
   refine Qk (s:=⟨false,fM,0,1,1,none⟩) l [(⟨((i:Nat):Int),⟨dw,((pJ b i).xs)⟩⟩:It)] rfl rfl (by decide) (by have:=congrArg List.length aG;have h9:=BZ (lx a) (lx b) i;simp only[ux,List.length_map]at this;simp only[List.length_cons,List.length_nil];omega) (by have:=congrArg List.length aG;have h9:=BZ (lx a) (lx b) i;simp only[ux,List.length_map]at this;simp only[List.length_cons,List.length_nil];omega) fun kU XM=> ?_
   refine ah (bn rfl) ?_
   refine aY ?_
   refine oI ?_
   refine aO ?_
   refine aZ ?_
   refine ah (pE rfl rfl (by omega)) ?_
   refine ah (aF rfl) ?_
   refine aY ?_
   exact bD (x:=(i,l)) (i+1,kU) ⟨by first|omega|(simp only[];omega),by rw[ux,XM,List.map_append,K1 (by rw[←yx,←yx];exact h1),←aG,←yx];rfl⟩ (by simp only;omega) (Sub.cons rfl (Sub.cons rfl (Sub.cons rfl (Sub.cons rfl (Sub.cons rfl (Sub.nil _)))))) (fun w hw=>ai.mem hw)
  ·
   try simp only[Z0,Z1,Z2,Z3,Z4,Z5,Z6,Z7,Z8,Z9]at h1
   refine fW ?_
   refine oI ?_
   refine aO ?_
   refine aZ ?_
   refine ah (pE rfl rfl (by omega)) ?_
   refine ah (aF rfl) ?_
   refine aY ?_
   exact bD (x:=(i,l)) (i+1,l) ⟨by first|omega|(simp only[];omega),by rw[K0 (by rw[←yx,←yx];exact h1)];exact aG⟩ (by simp only;omega) (Sub.cons rfl (Sub.cons rfl (Sub.cons rfl (Sub.cons rfl (Sub.cons rfl (Sub.nil _)))))) (fun w hw=>ai.mem hw)
 ·
  try simp only[Z0,Z1,Z2,Z3,Z4,Z5,Z6,Z7,Z8,Z9]at h0
  refine rA ?_
  refine lK ?_
  refine lK ?_
  refine rB ?_
  refine aO ?_
  refine aP ?_
  refine aZ ?_
  refine ah (aF rfl) ?_
  refine ah (bn rfl) ?_
  refine aY ?_
  refine aO ?_
  refine eu ?_
  refine au (.inl rfl) (aM rfl (aq rfl)) (fun w1 hw=> ?_)
  exact⟨l,rfl,(by rw[aG,eJ,ur,ur,show i=max a.xs.length b.xs.length by omega]),ai.mem hw⟩
instance aib{w0:World}{L:List aj}{a:Sl (Sl UInt8)}{b:Sl (Sl UInt8)}[ha:aW w0 L a][hb:aW w0 L b]:cr Tryz.prog 77 w0 L [a.sv.val,b.sv.val] (Sl It) (fun zz=>zz.sv.val) (fun zz=>Deep.ck zz::L) (fun zz=>ux zz=eJ (lx a) (lx b)) (a.xs.length≤1000000∧b.xs.length≤1000000∧ ∀x∈b.xs,x.xs.length≤140737488355328):=⟨fun hp w hw=>(XL w a b (ha.h w hw) (hb.h w hw) hp).mono fun e w' ⟨x,h1,h2,h3⟩=>⟨x,h1,h2,hw.call h3⟩⟩
open Go.ay Go.Kb
theorem XN(w:World)(b:Sv)(bs:List UInt8)(hb:bV aN 1 (hp w) b bs)(bc:bs.length=20):Calls Tryz.prog 139 #[b.val] w fun e w'=>e= .returned (.tuple #[.agg (ax (rdv bs)), .bool (nB bs)])∧Mem w [] w':=by
 have ve:Gv w b aN 1 bs:=⟨hb⟩
 have eg: ∀(i:Nat) e,bs[i]? =some e→bs.getD i 0=e:=fun i e h=>by simp[List.getD,h]
 obtain⟨e6,MJ⟩:=get_some (xs:=bs) (i:=0) (by omega)
 have zM:=eg 0 e6 MJ
 refine bf (args:=[_]) Tryz.func139 rfl Tryz.ntmps139 rfl ?_
 change Cw _ _ _ _ _ [(0,b.val)] []
 refine aP ?_
 refine aZ ?_
 refine bN fun b2=> ?_
 refine ah (bn rfl) ?_
 refine aY ?_
 refine aO ?_
 refine aP ?_
 refine aZ ?_
 refine bN fun b4=> ?_
 refine aY ?_
 refine aO ?_
 refine yj (X:=Unit) (fun zz=>[(0,b.val),(2, .pointer (some ⟨b2,0,none⟩)),(4, .pointer (some ⟨b4,0,none⟩))]) (fun zz=>[ar b4 ((ax jk).setIfInBounds 0 (.int .i64 (if e6=1 then 128 else 32))) 68,ar b2 (ax jk) 68]) (fun zz=>e6≤1) ?_ ?_
 ·
  refine aP ?_
  refine aZ ?_
  refine ah (aF rfl) ?_
  refine ah (bl rfl rfl 0 rfl (by omega)) ?_
  refine ah (bO (j:=0) rfl 0 MJ rfl (by decide)) ?_
  refine aY ?_
  refine aO ?_
  refine lr ?_
  refine aP ?_
  refine aZ ?_
  refine ah (cz rfl rfl rfl) ?_
  refine ah (bn rfl) ?_
  refine aY ?_
  refine aO ?_
  refine av rfl (fun h0=> ?_) (fun h0=> ?_)
  ·
   try simp only[Z0,Z1,Z2,Z3,Z4,Z5,Z6,Z7,Z8,Z9]at h0
   obtain rfl:e6=0:=UInt8.toNat_inj.1 (by simp;omega)
   refine aZ ?_
   refine ah (aH (o':=0) rfl rfl) ?_
   refine ah (aH (o':=0) rfl rfl) ?_
   refine eO rfl rfl (by simp[ku]) rfl rfl ?_
   refine aY ?_
   refine oI ?_
   exact qu () (by decide) (Sub.cons rfl (Sub.cons rfl (Sub.cons rfl (Sub.nil _)))) (fun w hw=>hw)
  ·
   try simp only[Z0,Z1,Z2,Z3,Z4,Z5,Z6,Z7,Z8,Z9]at h0
   refine aP ?_
   refine aZ ?_
   refine ah (cz rfl rfl rfl) ?_
   refine ah (bn rfl) ?_
   refine aY ?_
   refine aO ?_
   refine av rfl (fun h1=> ?_) (fun h1=> ?_)
   ·
    try simp only[Z0,Z1,Z2,Z3,Z4,Z5,Z6,Z7,Z8,Z9]at h1
    obtain rfl:e6=1:=UInt8.toNat_inj.1 (by simp;omega)
    refine aZ ?_
    refine ah (aH (o':=0) rfl rfl) ?_
    refine ah (aH (o':=0) rfl rfl) ?_
    refine eO rfl rfl (by simp[ku]) rfl rfl ?_
    refine aY ?_
    refine oI ?_
    exact qu () (by decide) (Sub.cons rfl (Sub.cons rfl (Sub.cons rfl (Sub.nil _)))) (fun w hw=>hw)
   ·
    try simp only[Z0,Z1,Z2,Z3,Z4,Z5,Z6,Z7,Z8,Z9]at h1
    have MK: ¬e6≤1:=fun h=>by rw[UInt8.le_iff_toNat_le]at h;simp at h;omega
    refine aP ?_
    refine aZ ?_
    refine ah (sA rfl) ?_
    refine qt rfl rfl ?_
    refine ah (bn rfl) ?_
    refine aY ?_
    refine aO ?_
    refine eu ?_
    refine mh ?_
    refine fj ?_
    refine au (.inl rfl) (bo rfl (cj rfl) (aq rfl)) (fun w1 hw=> ?_)
    exact⟨by rw[show nB bs=false from by rw[nB,zM];exact decide_eq_false MK,show rdv bs=jk from if_neg (by rw[nB,zM];simpa using MK)],ai.mem hw⟩
 ·
  rintro⟨⟩ hJ
  refine aP ?_
  refine aZ ?_
  refine ah (aF rfl) ?_
  obtain⟨CK,ML⟩:=get_some (xs:=bs) (i:=1) (by omega)
  refine ah (bl rfl rfl 1 rfl (by omega)) ?_
  refine ah (bO (j:=0) rfl 1 ML rfl (by decide)) ?_
  have XO:=eg 1 CK ML
  refine ah (uq rfl) ?_
  refine ah (aH (o':=0) rfl rfl) ?_
  refine ah (aH (o':=1) rfl rfl) ?_
  refine eO rfl rfl (by simp[ku]) rfl rfl ?_
  refine aY ?_
  refine aO ?_
  refine aP ?_
  refine jm [5] [[],[],[],[],[],[]] [0,1,2,3,4,5] [] (fun _ hw=>ai.mem hw) (by kernel_rfl) (by kernel_rfl) ?_
  refine an rfl (aH (o':=0) rfl rfl) ?_
  refine an rfl (aH (o':=2) rfl rfl) ?_
  refine an rfl (uc rfl) ?_
  refine an rfl (aF rfl) ?_
  have Ci:Rg 2 18 bs.length:=⟨by omega⟩
  refine an rfl (AG rfl rfl rfl 2 18 rfl rfl Ci.h.1 Ci.h.2) ?_
  refine dy rfl (Q6 (ys:=(bs.drop 2).take 16) rfl rfl (by simp;omega) (by simp;omega) (by simp[ku];omega) rfl ⟨fun _ hw=>ai.mem hw,?_⟩)
  refine A4 ?_
  refine aO ?_
  refine aP ?_
  refine jm [11] [[],[],[],[],[],[],[],[],[],[],[],[]] [0,1,2,3,4,5,6,7,8,9,10,11] [] (fun _ hw=>ai.mem hw) (by kernel_rfl) (by kernel_rfl) ?_
  refine an rfl (aF rfl) ?_
  obtain⟨XP,MM⟩:=get_some (xs:=bs) (i:=18) (by omega)
  refine an rfl (bl rfl rfl 18 rfl (by omega)) ?_
  refine an rfl (bO (j:=0) rfl 18 MM rfl (by decide)) ?_
  have XQ:=eg 18 XP MM
  refine an rfl (uq rfl) ?_
  refine an rfl (Iu rfl rfl) ?_
  refine an rfl (aF rfl) ?_
  obtain⟨XR,MN⟩:=get_some (xs:=bs) (i:=19) (by omega)
  refine an rfl (bl rfl rfl 19 rfl (by omega)) ?_
  refine an rfl (bO (j:=0) rfl 19 MN rfl (by decide)) ?_
  have XS:=eg 19 XR MN
  refine an rfl (uq rfl) ?_
  refine an rfl (Iv rfl rfl) ?_
  refine an rfl (aH (o':=18) rfl rfl) ?_
  refine dy rfl (wj rfl rfl (by rw[mn (by rw[List.size_toArray,gS];simp[ku];omega)];simp[ku]) rfl rfl ⟨fun _ hw=>ai.mem hw,?_⟩)
  refine A4 ?_
  refine aO ?_
  refine aP ?_
  refine qB [ar b4 (ax (om bs)) 68,ar b2 (ax jk) 68] (fun w hw=> ?_) ?_
  ·
   rw[←Tt (b:=bs) bc (if e6=1 then 128 else 32) (by rw[zM]),XO,XQ,XS];exact hw
  refine aZ ?_
  refine ah (fN rfl) ?_
  refine qt rfl rfl ?_
  refine ah (bn rfl) ?_
  refine aY ?_
  refine aO ?_
  refine eu ?_
  refine au (.inl rfl) (bo rfl (cj rfl) (aq rfl)) (fun w1 hw=> ?_)
  exact⟨by rw[show rdv bs=om bs from if_pos (by rw[nB,zM];exact decide_eq_true hJ),show nB bs=true from by rw[nB,zM];exact decide_eq_true hJ],ai.mem hw⟩
instance aic{w0:World}{L:List aj}{b:Sv}{bs:List UInt8}[hb:c6 w0 L aN 1 b bs]:cL Tryz.prog 139 w0 L [b.val] (.tuple #[.agg (ax (rdv bs)), .bool (nB bs)]) (bs.length=20):=⟨fun hp w hw=>XN w b bs (hb.h w hw) hp⟩
open Go.ay Go.Kb
instance aid{w0:World}{L:List aj}{s:Sv}{xs:List UInt8}{r:Rt}{i:Nat}{L':Sv→List aj}[q:fG L s aN 1 xs i][u: ∀s',fw L i (own aN 1 s' (xs++eG r)) (L' s')]:cr Tryz.prog 113 w0 L [s.val, .agg (ax r)] Sv (fun s=>s.val) L' (fun _=>True) (xs.length≤1000000):=⟨fun hp w hw=>
 (Xs w0 w (L.eraseIdx i) s xs r (hw.perm (nh q.h)) hp).mono fun e w' ⟨s',h1,h2,h3,h4⟩=>⟨s',h1,trivial,by
  rw[←(u s').h]
  exact h4.perm (set_perm _ L i (At.lt q.h))⟩⟩
theorem XT(w:World)(a:Sl (Sl UInt8))(ha:Deep.bh (hp w) a)(bc:a.xs.length≤1000∧ ∀x∈a.xs,x.xs.length≤100000):Calls Tryz.prog 101 #[a.sv.val] w fun e w'=> ∃zz:Sv,e= .returned (.tuple #[zz.val, .int .i64 (jO (lx a))])∧(True)∧Mem w [own ax 19 zz (iZ (lx a))] w':=by
 have Cf:cC w a:=⟨ha⟩
 obtain⟨oo,rU⟩:=bc
 have hl:=ur a
 refine bf (args:=[_]) Tryz.func101 rfl Tryz.ntmps101 rfl ?_
 change Cw _ _ _ _ _ [(0,a.sv.val)] []
 refine aP ?_
 refine aZ ?_
 refine ah (bn rfl) ?_
 refine ah (bn rfl) ?_
 refine aY ?_
 refine aO ?_
 refine aP ?_
 refine aZ ?_
 refine ah (bn rfl) ?_
 refine aY ?_
 refine aO ?_
 refine aP ?_
 refine aP ?_
 refine aZ ?_
 refine ah (aF rfl) ?_
 refine ah (kZ rfl) ?_
 refine ah (aF rfl) ?_
 refine aY ?_
 refine aO ?_
 refine lr ?_
 refine cg (X:=Nat×Sv×List Rt) (fun zz=>[(11, .int .i64 (zz.1:Nat)),(4,zz.2.1.val),(9,a.sv.val),(10, .int .i64 (a.xs.length:Nat))]) (fun zz=>[own ax 19 zz.2.1 zz.2.2]) (fun zz=>zz.1≤a.xs.length∧gn ((lx a).take zz.1)=some zz.2.2∧zz.2.2.length≤zz.1*100000) (fun zz=>a.xs.length -zz.1) (0,Sv.none,[]) ⟨by first|omega|(simp only[];omega),rfl,by simp⟩ (Sub.cons rfl (Sub.cons rfl (Sub.cons rfl (Sub.cons rfl (Sub.nil _))))) (fun w hw=>Mem.dI ax 19 hw) ?_
 rintro⟨i,t,q⟩ ⟨bk,aG,bB⟩
 dsimp only
 simp only at bk aG bB
 refine aP ?_
 refine aZ ?_
 refine ah (cz rfl rfl rfl) ?_
 refine aY ?_
 refine aO ?_
 refine aP ?_
 refine av rfl (fun h0=> ?_) (fun h0=> ?_)
 ·
  try simp only[Z0,Z1,Z2,Z3,Z4,Z5,Z6,Z7,Z8,Z9]at h0
  refine fW ?_
  refine aO ?_
  refine aP ?_
  refine lr ?_
  refine aP ?_
  refine aZ ?_
  obtain⟨x,hx⟩:=get_some (xs:=a.xs) (i:=i) (by omega)
  refine ah (bl rfl rfl i rfl (by omega)) ?_
  refine ah (bO (j:=0) rfl i hx rfl (by decide)) ?_
  have Cl:Mb x _:=⟨List.mem_of_getElem? hx⟩
  have ex:(lx a)[i]? =some x.xs:=by simp[lx,hx]
  have Cg:Mb x _:=⟨List.mem_of_getElem? hx⟩
  refine ah (bn rfl) ?_
  refine aY ?_
  refine aO ?_
  refine aP ?_
  refine aP ?_
  refine aZ ?_
  refine ah (aF rfl) ?_
  refine ah (kZ rfl) ?_
  refine ah (yq (p:=x.xs.length) (q:=20) rfl rfl rfl rfl (by omega)) ?_
  refine ah (cz rfl rfl rfl) ?_
  refine aY ?_
  refine aO ?_
  refine av rfl (fun h1=> ?_) (fun h1=> ?_)
  ·
   try simp only[Z0,Z1,Z2,Z3,Z4,Z5,Z6,Z7,Z8,Z9]at h1
   have gZ:gn (lx a)=none:=KY (i:=i+1) (by rw[Fv ex,aG,KX _ x.xs (Nat.le_refl _) (by omega)];rfl)
   refine aP ?_
   refine aZ ?_
   refine ah (bn rfl) ?_
   refine ah (bn rfl) ?_
   refine aY ?_
   refine aO ?_
   refine eu ?_
   refine fj ?_
   refine mh ?_
   refine fj ?_
   refine fj ?_
   refine mh ?_
   refine fj ?_
   refine au (.inl rfl) (bo rfl (aq rfl) (aq rfl)) (fun w1 hw=> ?_)
   exact⟨Sv.none,by rw[(BY gZ).2];rfl,trivial,by rw[(BY gZ).1];exact(ai.mem hw:Mem w [] _).dI ax 19⟩
  ·
   try simp only[Z0,Z1,Z2,Z3,Z4,Z5,Z6,Z7,Z8,Z9]at h1
   refine fW ?_
   refine aO ?_
   refine lr ?_
   refine cg (X:=Sv×List UInt8×Sv×List Rt) (fun zz=>[(6,zz.1.val),(4,zz.2.2.1.val),(9,a.sv.val),(10, .int .i64 (a.xs.length:Nat)),(11, .int .i64 (i:Nat))]) (fun zz=>[own ax 19 zz.2.2.1 zz.2.2.2]) (fun zz=> ∃pre,zz.2.2.2=q++pre∧lb x.xs=(lb zz.2.1).map (pre++ ·)∧bV aN 1 (hp w) zz.1 zz.2.1∧zz.2.1.length%20=0∧zz.2.2.2.length+zz.2.1.length≤(i+1)*100000) (fun zz=>zz.2.1.length) (x.sv,x.xs,t,q) ⟨[],by simp,by cases lb x.xs<;>rfl,(ha.2 x (List.mem_of_getElem? hx)).1,by first|omega|(simp only[];omega),by have:=rU x (List.mem_of_getElem? hx);simp only;omega⟩ (Sub.cons rfl (Sub.cons rfl (Sub.cons rfl (Sub.cons rfl (Sub.cons rfl (Sub.nil _)))))) (fun w hw=>ai.mem hw) ?_
   rintro⟨cu,cs,t2,q2⟩ ⟨pre,iC,dF,iN,lj,xA⟩
   dsimp only
   simp only at iC dF iN lj xA
   have gcu:Gv w cu aN 1 cs:=⟨iN⟩
   refine aP ?_
   refine aP ?_
   refine aZ ?_
   refine ah (aF rfl) ?_
   refine ah (kZ rfl) ?_
   refine ah (cz rfl rfl rfl) ?_
   refine aY ?_
   refine aO ?_
   refine av rfl (fun h2=> ?_) (fun h2=> ?_)
   ·
    try simp only[Z0,Z1,Z2,Z3,Z4,Z5,Z6,Z7,Z8,Z9]at h2
    have XU:20≤cs.length:=by omega
    have GM:(cs.drop 0).take (20 -0)=cs.take 20:=by simp
    have ec:=Fu XU
    rw[K2]at ec
    refine fW ?_
    refine aO ?_
    refine aP ?_
    refine lr ?_
    refine aP ?_
    refine aZ ?_
    refine ah (aF rfl) ?_
    have XV:Rg 0 20 cs.length:=⟨by omega⟩
    refine ah (Ix rfl rfl 20 rfl XV.h.2) ?_
    refine fE (cM rfl (by simp;omega)) ?_
    refine ah (aF rfl) ?_
    refine ah (aV (v:= .agg (ax (rdv ((cs.drop 0).take (20 -0))))) rfl rfl) ?_
    refine ah (aV (v:= .bool (nB ((cs.drop 0).take (20 -0)))) rfl rfl) ?_
    refine bN fun b7=> ?_
    refine qt rfl rfl ?_
    refine ah (bn rfl) ?_
    refine aY ?_
    refine aO ?_
    refine aP ?_
    refine aP ?_
    refine aZ ?_
    refine ah (aF rfl) ?_
    refine ah (iu rfl) ?_
    refine aY ?_
    refine aO ?_
    refine av rfl (fun h3=> ?_) (fun h3=> ?_)
    ·
     try simp only[Z0,Z1,Z2,Z3,Z4,Z5,Z6,Z7,Z8,Z9]at h3
     rw[GM]at h3
     have gZ:gn (lx a)=none:=KY (i:=i+1) (by rw[Fv ex,aG,dF,ec,h3];rfl)
     refine aP ?_
     refine aZ ?_
     refine ah (bn rfl) ?_
     refine ah (bn rfl) ?_
     refine aY ?_
     refine aO ?_
     refine eu ?_
     refine fj ?_
     refine mh ?_
     refine fj ?_
     refine fj ?_
     refine mh ?_
     refine mh ?_
     refine fj ?_
     refine fj ?_
     refine mh ?_
     refine fj ?_
     refine au (.inl rfl) (bo rfl (aq rfl) (aq rfl)) (fun w1 hw=> ?_)
     exact⟨Sv.none,by rw[(BY gZ).2];rfl,trivial,by rw[(BY gZ).1];exact(ai.mem hw:Mem w [] _).dI ax 19⟩
    ·
     try simp only[Z0,Z1,Z2,Z3,Z4,Z5,Z6,Z7,Z8,Z9]at h3
     rw[GM]at h3
     rw[h3]at ec
     simp only[if_true,Option.bind_some]at ec
     have XW:rdv ((cs.drop 0).take (20 -0))=om (cs.take 20):=by rw[GM,rdv,if_pos h3]
     refine fW ?_
     refine aO ?_
     refine aZ ?_
     refine ah (aF rfl) ?_
     refine ah (fN rfl) ?_
     refine oK (enc:=ax) (vals:=[_]) [(rdv ((cs.drop 0).take (20 -0)))] rfl rfl rfl (by decide) (by decide) fun zJ=> ?_
     refine lN (s:=t2) (ys:=[(rdv ((cs.drop 0).take (20 -0)))]) rfl rfl (by decide) (fun w hw=>kI (s:=⟨false,zJ,0,1,1,none⟩) Tryz.underlying52 (by decide) ((inferInstance:Hd _ _ ⟨false,zJ,0,1,1,none⟩ ax 19 [(rdv ((cs.drop 0).take (20 -0)))]).h w hw)) (by simp only[List.length_cons,List.length_nil];omega) (by simp only[List.length_cons,List.length_nil];omega) fun XX aie aif=> ?_
     refine ah (bn rfl) ?_
     refine aY ?_
     refine oI ?_
     refine aO ?_
     refine aZ ?_
     refine ah (aF rfl) ?_
     have XY:Rg 20 cs.length cs.length:=⟨by omega⟩
     refine ah (AH rfl rfl 20 rfl XY.h.1) ?_
     refine ah (bn rfl) ?_
     refine aY ?_
     exact bD (x:=(cu,cs,t2,q2)) (_,cs.drop 20,XX,q2++[om (cs.take 20)]) ⟨pre++[om (cs.take 20)],by simp[iC],by rw[dF,ec];cases lb (cs.drop 20)<;>simp,by have:=iN.sub (lo:=20) (hi:=cs.length) (by first|omega|(simp only[];omega)) (Nat.le_refl _);rwa [List.take_of_length_le (by rw[List.length_drop];omega)]at this,by simp only[List.length_drop];omega,by simp only[List.length_append,List.length_drop,List.length_cons,List.length_nil];omega⟩ (by simp only[List.length_drop];omega) (Sub.cons rfl (Sub.cons rfl (Sub.cons rfl (Sub.cons rfl (Sub.cons rfl (Sub.nil _)))))) (fun w hw=>by rw[XW]at hw;exact ai.mem hw)
   ·
    try simp only[Z0,Z1,Z2,Z3,Z4,Z5,Z6,Z7,Z8,Z9]at h2
    refine rA ?_
    refine lK ?_
    refine lK ?_
    refine rB ?_
    refine oI ?_
    refine aO ?_
    refine aZ ?_
    refine ah (pE rfl rfl (by omega)) ?_
    refine ah (aF rfl) ?_
    refine aY ?_
    exact bD (x:=(i,t,q)) (i+1,t2,q2) ⟨by first|omega|(simp only[];omega),by rw[Fv ex,aG,Option.bind_some,dF,show cs=[]from List.length_eq_zero_iff.1 (by first|omega|(simp only[];omega)),KW];simp[iC],by simp only;omega⟩ (by simp only;omega) (Sub.cons rfl (Sub.cons rfl (Sub.cons rfl (Sub.cons rfl (Sub.nil _))))) (fun w hw=>ai.mem hw)
 ·
  try simp only[Z0,Z1,Z2,Z3,Z4,Z5,Z6,Z7,Z8,Z9]at h0
  refine rA ?_
  refine lK ?_
  refine lK ?_
  refine rB ?_
  refine aO ?_
  refine aP ?_
  refine aP ?_
  have fx:gn (lx a)=some q:=by rw[←aG,List.take_of_length_le (by omega)]
  refine aZ ?_
  refine ah (aF rfl) ?_
  refine fE (cM rfl trivial) ?_
  refine ah (iu rfl) ?_
  refine aY ?_
  refine aO ?_
  refine av rfl (fun h4=> ?_) (fun h4=> ?_)
  ·
   try simp only[Z0,Z1,Z2,Z3,Z4,Z5,Z6,Z7,Z8,Z9]at h4
   refine aP ?_
   refine aZ ?_
   refine ah (bn rfl) ?_
   refine ah (bn rfl) ?_
   refine aY ?_
   refine aO ?_
   refine eu ?_
   refine fj ?_
   refine au (.inl rfl) (bo rfl (aq rfl) (aq rfl)) (fun w1 hw=> ?_)
   exact⟨Sv.none,by rw[(KZ fx h4).2];rfl,trivial,by rw[(KZ fx h4).1];exact(ai.mem hw:Mem w [] _).dI ax 19⟩
  ·
   try simp only[Z0,Z1,Z2,Z3,Z4,Z5,Z6,Z7,Z8,Z9]at h4
   refine fW ?_
   refine aO ?_
   refine aP ?_
   refine aZ ?_
   refine ah (aF rfl) ?_
   refine ah (bn rfl) ?_
   refine ah (bn rfl) ?_
   refine aY ?_
   refine aO ?_
   refine eu ?_
   refine au (.inl rfl) (bo rfl (aq rfl) (aq rfl)) (fun w1 hw=> ?_)
   exact⟨t,by rw[(Fw fx h4).2],trivial,by rw[(Fw fx h4).1];exact hw⟩
instance XZ{w0:World}{L:List aj}{a:Sl (Sl UInt8)}[ha:aW w0 L a]:cr Tryz.prog 101 w0 L [a.sv.val] (Sv) (fun zz=> .tuple #[zz.val, .int .i64 (jO (lx a))]) (fun zz=>own ax 19 zz (iZ (lx a))::L) (fun zz=>True) (a.xs.length≤1000∧ ∀x∈a.xs,x.xs.length≤100000):=⟨fun hp w hw=>(XT w a (ha.h w hw) hp).mono fun e w' ⟨x,h1,h2,h3⟩=>⟨x,h1,h2,hw.call h3⟩⟩
open Go.ay Go.Kb
open Go.ay Go.Kb
theorem X0(w:World)(t:Sv)(ts:List Rt)(ids:Int)(room:Int)(ht:bV ax 19 (hp w) t ts):Calls Tryz.prog 76 #[t.val, .int .i64 ids, .int .i64 room] w fun e w'=> ∃zz:Sl (Sl UInt8),e= .returned (.tuple #[zz.sv.val, .int .i64 (iY ts ids room)])∧(lx zz=jN ts ids room)∧Mem w [Deep.ck zz] w':=by
 have Cj:Gv w t ax 19 ts:=⟨ht⟩
 refine bf (args:=[_,_,_]) Tryz.func76 rfl Tryz.ntmps76 rfl ?_
 change Cw _ _ _ _ _ [(0,t.val),(1, .int .i64 ids),(2, .int .i64 room)] []
 refine aP ?_
 refine aZ ?_
 refine ah (bn rfl) ?_
 refine ah (bn rfl) ?_
 refine aY ?_
 refine aO ?_
 refine aP ?_
 refine aZ ?_
 refine ah (aF rfl) ?_
 refine ah (aF rfl) ?_
 refine fE (cM rfl trivial) ?_
 refine ah (bn rfl) ?_
 refine aY ?_
 refine aO ?_
 refine aP ?_
 refine aP ?_
 refine aZ ?_
 refine ah (aF rfl) ?_
 refine ah (cz rfl rfl rfl) ?_
 refine ah (aF rfl) ?_
 refine ca rfl rfl rfl (fun hg=>(Ry.yl (aF rfl))) ?_
 refine ca rfl rfl rfl (fun hg=>cM (dP (aI hg rfl) gP) trivial) ?_
 refine ca rfl rfl rfl (fun hg=>(Ry.yl (iu (aI hg rfl)))) ?_
 refine ah (mf rfl rfl rfl) ?_
 refine aY ?_
 refine aO ?_
 refine av rfl (fun h0=> ?_) (fun h0=> ?_)
 ·
  try simp only[Z0,Z1,Z2,Z3,Z4,Z5,Z6,Z7,Z8,Z9]at h0
  refine aP ?_
  refine aZ ?_
  refine ah (bn rfl) ?_
  refine ah (bn rfl) ?_
  refine aY ?_
  refine aO ?_
  refine eu ?_
  refine fj ?_
  refine au (.inl rfl) (bo rfl (aq rfl) (aq rfl)) (fun w1 hw=> ?_)
  exact⟨⟨Sv.none,[]⟩,by rw[(K3 h0).1];rfl,(K3 h0).2.symm,Mem.AJ (enc:=cc) (c:=1) (ai.mem hw)⟩
 ·
  try simp only[Z0,Z1,Z2,Z3,Z4,Z5,Z6,Z7,Z8,Z9]at h0
  obtain⟨CL,GN⟩:=h0
  have hm:=BW CL
  obtain⟨k,hk⟩: ∃k:Nat,ids=k:=⟨ids.toNat,by omega⟩
  obtain⟨n,hn⟩: ∃n:Nat,room/20=n:=⟨(room/20).toNat,by omega⟩
  have ow:ids*(room/20)=((k*n:Nat):Int):=by rw[hk,hn,Int.natCast_mul]
  have ek:ids.toNat=k:=by omega
  have en:(room/20).toNat=n:=by omega
  refine fW ?_
  refine aO ?_
  refine aP ?_
  refine aP ?_
  refine aZ ?_
  refine ah (aF rfl) ?_
  refine ah (kZ rfl) ?_
  refine ah (aF rfl) ?_
  refine ah (cz rfl rfl rfl) ?_
  refine aY ?_
  refine aO ?_
  refine av rfl (fun h1=> ?_) (fun h1=> ?_)
  ·
   try simp only[Z0,Z1,Z2,Z3,Z4,Z5,Z6,Z7,Z8,Z9]at h1
   refine aP ?_
   refine aZ ?_
   refine ah (bn rfl) ?_
   refine ah (bn rfl) ?_
   refine aY ?_
   refine aO ?_
   refine eu ?_
   refine fj ?_
   refine au (.inl rfl) (bo rfl (aq rfl) (aq rfl)) (fun w1 hw=> ?_)
   exact⟨⟨Sv.none,[]⟩,by rw[(K4 CL GN h1).1];rfl,(K4 CL GN h1).2.symm,Mem.AJ (enc:=cc) (c:=1) (ai.mem hw)⟩
  ·
   try simp only[Z0,Z1,Z2,Z3,Z4,Z5,Z6,Z7,Z8,Z9]at h1
   have hE:=Fx CL GN h1
   rw[ek,en]at hE
   have w8:ts.length≤k*n:=by omega
   have hl:=ht.bd
   refine fW ?_
   refine aO ?_
   refine aP ?_
   refine aZ ?_
   refine ah (aF rfl) ?_
   refine Qm (τ:=UInt8) (n:=k) (cap:=k) rfl rfl (by omega) (by omega) (by omega) (by omega) (by omega) fun dw X1=> ?_
   refine ah (bn rfl) ?_
   refine aY ?_
   refine aO ?_
   refine aP ?_
   refine aP ?_
   refine aZ ?_
   refine ah (aF rfl) ?_
   refine ah (kZ rfl) ?_
   refine ah (aF rfl) ?_
   refine aY ?_
   refine aO ?_
   refine lr ?_
   refine cg (X:=Nat×Sl (Sl UInt8)) (fun zz=>[(31, .int .i64 (zz.1:Nat)),(9,zz.2.sv.val),(2, .int .i64 room),(29,t.val),(30, .int .i64 (ts.length:Nat))]) (fun zz=>[Deep.ck zz.2]) (fun zz=>zz.1≤ts.length∧lx zz.2=la (ts.take zz.1) k n) (fun zz=>ts.length -zz.1) (0,dw) ⟨by first|omega|(simp only[];omega),by rw[Tp];show List.map _ _=_;rw[X1];simp⟩ (Sub.cons rfl (Sub.cons rfl (Sub.cons rfl (Sub.cons rfl (Sub.cons rfl (Sub.nil _)))))) (fun w hw=>ai.mem hw) ?_
   rintro⟨i,a⟩ ⟨bk,aG⟩
   dsimp only
   simp only at bk aG
   refine aP ?_
   refine aZ ?_
   refine ah (cz rfl rfl rfl) ?_
   refine aY ?_
   refine aO ?_
   refine aP ?_
   refine av rfl (fun h2=> ?_) (fun h2=> ?_)
   ·
    try simp only[Z0,Z1,Z2,Z3,Z4,Z5,Z6,Z7,Z8,Z9]at h2
    refine fW ?_
    refine aO ?_
    refine aP ?_
    refine lr ?_
    refine aP ?_
    refine aZ ?_
    refine ah (aF rfl) ?_
    obtain⟨vp,GO⟩:=get_some (xs:=ts) (i:=i) (by omega)
    refine ah (bl rfl rfl i rfl (by omega)) ?_
    refine ah (hH rfl i GO rfl) ?_
    refine bN fun pn=> ?_
    refine ah (bn rfl) ?_
    refine qt rfl rfl ?_
    refine aY ?_
    refine aO ?_
    refine aP ?_
    refine aZ ?_
    refine ah (aF rfl) ?_
    refine ah (aF rfl) ?_
    refine ah (nR rfl rfl (by omega) (by omega)) ?_
    refine ah (nR rfl rfl (by omega) (by omega)) ?_
    refine ah (bn rfl) ?_
    refine aY ?_
    refine aO ?_
    have bt:i/n<k:=Nat.div_lt_of_lt_mul (by rw[Nat.mul_comm];omega)
    have GP:i/n<a.xs.length:=by rw[←ur,aG,th];exact bt
    obtain⟨x,hx⟩:=get_some (xs:=a.xs) (i:=i/n) GP
    have ex:(lx a)[i/n]? =some x.xs:=by simp[lx,hx]
    have xC:((i:Nat):Int)/(room/20)=((i/n:Nat):Int):=by rw[hn];exact(Int.natCast_ediv i n).symm
    have EE:x.xs.length≤240:=by
     rw[aG,la,List.getElem?_map]at ex
     obtain⟨j,_,hj⟩:=Option.map_eq_some_iff.1 ex
     have:=KV (ts.take i) n j
     rw[hj]at this;omega
    refine qB (own cc 1 a.sv a.xs::own aN 1 x.sv x.xs::ar pn (ax vp) 68::(a.xs.eraseIdx (i/n)).map Deep.ck) (fun w hw=>(Tr.Qn (B:=[ar pn (ax vp) 68]) hx).mem hw) ?_
    refine Ih 9 [7] [own cc 1 a.sv a.xs,ar pn (ax vp) 68] (fun w hw=>ai.mem hw) (by kernel_rfl) (by kernel_rfl) ?_
    simp only[List.take_succ_cons,List.take_zero]
    refine bm (aF rfl) ?_
    refine bm (aF rfl) ?_
    refine bm (aF rfl) ?_
    refine bm (aF rfl) ?_
    refine bm (bl rfl rfl (i/n) xC GP) ?_
    refine bm (bO (j:=0) rfl (i/n) hx rfl (by decide)) ?_
    have X2:Mb x _:=⟨List.mem_of_getElem? hx⟩
    refine bm (fN rfl) ?_
    refine PH ?_
    refine bm (bl rfl rfl (i/n) xC GP) ?_
    refine sB ?_ (fun _ hw=>ai.mem hw)
    refine Qb rfl rfl (by omega) (fun _ w hw=>ai.mem hw) fun xp VS=> ?_
    refine sC ?_
    simp only[List.drop_succ_cons,List.drop_zero]
    refine AM (k:=i/n) ⟨xp,x.xs++eG vp⟩ (by kernel_rfl) rfl rfl rfl hx ?_
    refine aY ?_
    refine oI ?_
    refine aO ?_
    refine aZ ?_
    refine ah (pE rfl rfl (by omega)) ?_
    refine ah (aF rfl) ?_
    refine aY ?_
    exact bD (x:=(i,a)) (i+1,⟨a.sv,a.xs.set (i/n) ⟨xp,x.xs++eG vp⟩⟩) ⟨by first|omega|(simp only[];omega),by rw[Tu,To (by first|omega|(simp only[];omega)) GO (by rw[←aG];exact ex),←aG];rfl⟩ (by first|omega|(simp only[];omega)) (Sub.cons rfl (Sub.cons rfl (Sub.cons rfl (Sub.cons rfl (Sub.cons rfl (Sub.nil _)))))) (fun w hw=>ai.mem ((Tr.Qo (B:=[ar pn (ax vp) 68]) (enc:=aN) (c:=1) (by rw[←ur,aG,th];exact bt)).mem hw))
   ·
    try simp only[Z0,Z1,Z2,Z3,Z4,Z5,Z6,Z7,Z8,Z9]at h2
    refine rA ?_
    refine lK ?_
    refine lK ?_
    refine rB ?_
    refine aO ?_
    refine aP ?_
    refine aZ ?_
    refine ah (aF rfl) ?_
    refine ah (bn rfl) ?_
    refine ah (bn rfl) ?_
    refine aY ?_
    refine aO ?_
    refine eu ?_
    refine au (.inl rfl) (bo rfl (aq rfl) (aq rfl)) (fun w1 hw=> ?_)
    exact⟨a,by rw[hE.1],by rw[aG,hE.2,List.take_of_length_le (by omega)],hw⟩
instance aih{w0:World}{L:List aj}{t:Sv}{ts:List Rt}{ids:Int}{room:Int}[ht:c6 w0 L ax 19 t ts]:cr Tryz.prog 76 w0 L [t.val, .int .i64 ids, .int .i64 room] (Sl (Sl UInt8)) (fun zz=> .tuple #[zz.sv.val, .int .i64 (iY ts ids room)]) (fun zz=>Deep.ck zz::L) (fun zz=>lx zz=jN ts ids room) (True):=⟨fun hp w hw=>(X0 w t ts ids room (ht.h w hw)).mono fun e w' ⟨x,h1,h2,h3⟩=>⟨x,h1,h2,hw.call h3⟩⟩
open Go.ay Go.Kb
open Go.RowKit
instance:fh Tryz.prog 54 (.agg (bS ld)):=⟨by kernel_rfl⟩
theorem GQ(v:bT)(t:Sl Rt)(w:World):(Instr.build 54 #[(0, .agg (bL v)),(1,t.sv.val)]).run Tryz.prog w= .ok (.agg (bS ⟨v,t⟩)) w:=by
 obtain⟨s,xs⟩:=t
 obtain⟨⟨a1,a2,⟨a3,a4⟩,a5,a6,⟨a7,a8⟩⟩,⟨a9,X3⟩,X4,X5⟩:=v
 unfold bS
 obtain⟨e,b,o,l,c,p⟩:=s
 obtain⟨e3,b3,o3,l3,c3,p3⟩:=a3
 obtain⟨e7,b7,o7,l7,c7,p7⟩:=a7
 obtain⟨e9,b9,o9,l9,c9,p9⟩:=a9
 cases e<;>cases e3<;>cases e7<;>cases e9<;>kernel_rfl
theorem X6(w:World)(b:Int)(p:Int)(s:Int):Calls Tryz.prog 58 #[.int .i64 b, .int .i64 p, .int .i64 s] w fun e w'=>e= .returned (.int .i64 (ti b p s))∧Mem w [] w':=by
 have GL:=T1 b p
 have LN:=LA s
 refine bf (args:=[_,_,_]) Tryz.func58 rfl Tryz.ntmps58 rfl ?_
 change Cw _ _ _ _ _ [(0, .int .i64 b),(1, .int .i64 p),(2, .int .i64 s)] []
 refine Gc ?_
 refine Gs ?_
 refine Gc ?_
 iterate 3 refine Gs ?_
 refine ah (nR rfl rfl (by omega) (by omega)) ?_
 iterate 2 refine Gs ?_
 refine ah (DI rfl rfl) ?_
 refine Gs ?_
 refine Gc ?_
 refine au (.inl rfl) (aM rfl (aq rfl)) (fun w1 hw=> ?_)
 exact⟨congrArg (fun b=>Ending.returned (Value.int .i64 b)) ((by rw[ti])),ai.mem hw⟩
instance aii{w0:World}{L:List aj}{b:Int}{p:Int}{s:Int}:cL Tryz.prog 58 w0 L [.int .i64 b, .int .i64 p, .int .i64 s] (.int .i64 (ti b p s)) (True):=⟨fun hp w hw=>X6 w b p s⟩
theorem X7(w:World)(b:Int)(p:Int)(s:Int):Calls Tryz.prog 24 #[.int .i64 b, .int .i64 p, .int .i64 s] w fun e w'=>e= .returned (.int .i64 (tj b p s))∧Mem w [] w':=by
 refine bf (args:=[_,_,_]) Tryz.func24 rfl Tryz.ntmps24 rfl ?_
 change Cw _ _ _ _ _ [(0, .int .i64 b),(1, .int .i64 p),(2, .int .i64 s)] []
 refine Gc ?_
 refine Gs ?_
 refine Gc ?_
 iterate 8 refine Gs ?_
 refine Gc ?_
 refine au (.inl rfl) (aM rfl (aq rfl)) (fun w1 hw=> ?_)
 exact⟨congrArg (fun b=>Ending.returned (Value.int .i64 b)) ((by rw[tj])),ai.mem hw⟩
instance aij{w0:World}{L:List aj}{b:Int}{p:Int}{s:Int}:cL Tryz.prog 24 w0 L [.int .i64 b, .int .i64 p, .int .i64 s] (.int .i64 (tj b p s)) (True):=⟨fun hp w hw=>X7 w b p s⟩
theorem X8(w:World)(c:Cp)(hc:Deep.bh (hp w) c):Calls Tryz.prog 72 #[.agg (aE c)] w fun e w'=>e= .returned (.int .i64 (dS (cv c)))∧Mem w [] w':=by
 have jQ:cC w c:=⟨hc⟩
 refine bf (args:=[_]) Tryz.func72 rfl Tryz.ntmps72 rfl ?_
 change Cw _ _ _ _ _ [(0, .agg (aE c))] []
 refine Gc ?_
 refine cq rfl fun b1=> ?_
 refine Gs ?_
 refine Gc ?_
 iterate 9 refine Gs ?_
 refine Gc ?_
 refine au (.inl rfl) (aM rfl (aq rfl)) (fun w1 hw=> ?_)
 exact⟨congrArg (fun b=>Ending.returned (Value.int .i64 b)) ((by simp only[dS,cv,gg])),ai.mem hw⟩
instance aik{w0:World}{L:List aj}{c:Cp}[hc:aW w0 L c]:cL Tryz.prog 72 w0 L [.agg (aE c)] (.int .i64 (dS (cv c))) (True):=⟨fun hp w hw=>X8 w c (hc.h w hw)⟩
theorem X9(w:World)(c:Cp)(hc:Deep.bh (hp w) c):Calls Tryz.prog 70 #[.agg (aE c)] w fun e w'=>e= .returned (.int .i64 (fC (cv c)))∧Mem w [] w':=by
 have jQ:cC w c:=⟨hc⟩
 refine bf (args:=[_]) Tryz.func70 rfl Tryz.ntmps70 rfl ?_
 change Cw _ _ _ _ _ [(0, .agg (aE c))] []
 refine Gc ?_
 refine cq rfl fun b1=> ?_
 refine Gs ?_
 refine Gc ?_
 iterate 9 refine Gs ?_
 refine Gc ?_
 refine au (.inl rfl) (aM rfl (aq rfl)) (fun w1 hw=> ?_)
 exact⟨congrArg (fun b=>Ending.returned (Value.int .i64 b)) ((by simp only[fC,cv,gg])),ai.mem hw⟩
instance ail{w0:World}{L:List aj}{c:Cp}[hc:aW w0 L c]:cL Tryz.prog 70 w0 L [.agg (aE c)] (.int .i64 (fC (cv c))) (True):=⟨fun hp w hw=>X9 w c (hc.h w hw)⟩
open Go.ay Go.Kb
open Go.RowKit
theorem Ya(w:World)(v:bT)(id:Nat)(hv:Deep.bh (hp w) v)(bc:aS (cv v.ag)=true∧id<v.at_.xs.length∧ ∀y∈v.at_.xs,0≤y∧y≤65535∧(y≠0→jK (cv v.ag) (y -1)=true)):Calls Tryz.prog 100 #[.agg (bL v), .int .i64 (id:Nat)] w fun e w'=> ∃zz:Sv,e= .returned (zz.val)∧(True)∧Mem w [own aN 1 zz (dX (cv v.ag) (v.at_.xs.getD id 0))] w':=by
 have zj:cC w v:=⟨hv⟩
 obtain⟨hk,gX,iD⟩:=bc
 obtain⟨y,hy⟩:=get_some (xs:=v.at_.xs) (i:=id) gX
 have mX:v.at_.xs.getD id 0=y:=ob hy
 obtain⟨uo,FK,bA⟩:=iD y (List.mem_of_getElem? hy)
 refine bf (args:=[_,_]) Tryz.func100 rfl Tryz.ntmps100 rfl ?_
 change Cw _ _ _ _ _ [(0, .agg (bL v)),(1, .int .i64 (id:Nat))] []
 refine Gc ?_
 refine cq rfl fun b2=> ?_
 refine Gs ?_
 refine Gc ?_
 iterate 3 refine Gs ?_
 refine ah (bl rfl rfl id rfl (by omega)) ?_
 refine ah (bO (j:=0) rfl id hy rfl (by decide)) ?_
 iterate 2 refine Gs ?_
 refine Gc ?_
 iterate 2 refine Gs ?_
 refine Gc ?_
 refine av rfl (fun h0=> ?_) (fun h0=> ?_)
 ·
  replace h0:=bz h0
  have hE:(dX (cv v.ag) (v.at_.xs.getD id 0))=[]:=by rw[mX,dX,if_pos (by omega)]
  refine Gc ?_
  refine Gs ?_
  refine Gc ?_
  refine au (.inl rfl) (aM rfl (aq rfl)) (fun w1 hw=> ?_)
  exact⟨Sv.none,rfl,trivial,by rw[hE];exact Mem.dI aN 1 (ai.mem hw:Mem w [] _)⟩
 ·
  replace h0:=bz h0
  have h1y:1≤y:=by omega
  obtain⟨g1,g2,g3⟩:=mK.1 (bA (by omega))
  have du:=gg v.ag.blocks.xs
  have hY:=jI.1 (eC.1 hk).1
  simp only[cv,du]at hY
  have zm:0≤((y -1)/v.ag.ae):=Int.ediv_nonneg (by omega) (by omega)
  have l5:0≤((y -1)%v.ag.ae):=Int.emod_nonneg _ (by omega)
  have nE:((y -1)%v.ag.ae)<v.ag.ae:=Int.emod_lt_of_pos _ (by omega)
  have nF:=uI (c:=v.ag) (b:=((y -1)/v.ag.ae))
  change 2≤((y -1)/v.ag.ae)at g1
  change((y -1)/v.ag.ae)<((gy v.ag.blocks.xs).length:Int)at g2
  rw[du]at g2
  obtain⟨B,hB⟩:=get_some (xs:=v.ag.blocks.xs) (i:=((y -1)/v.ag.ae).toNat) (by omega)
  have pe:Mb B v.ag.blocks:=⟨List.mem_of_getElem? hB⟩
  have eD:bv B=ak (cv v.ag) ((y -1)/v.ag.ae):=by rw[←nF];simp[List.getD,hB]
  have fR:=eA.1 ((eC.1 hk).2.2.2.2 (bv B) (List.mem_of_getElem? (kx hB)))
  have iM:=jo B.ae.xs
  have zn:(B.ae.xs.length:Int)=v.ag.ae:=by have:=fR.1;simp only[bv,cv,iM]at this;exact this
  obtain⟨z,hz⟩:=get_some (xs:=B.ae.xs) (i:=((y -1)%v.ag.ae).toNat) (by omega)
  have tt:Mb z B.ae:=⟨List.mem_of_getElem? hz⟩
  have oo:bR (cv v.ag) (y -1)=z.xs:=by
   show(ak (cv v.ag) ((y -1)/v.ag.ae)).ae.getD ((y -1)%v.ag.ae).toNat []=z.xs
   rw[←eD]
   simp[bv,List.getD,kL hz]
  have hI:(dX (cv v.ag) (v.at_.xs.getD id 0))=ju (cv v.ag) y:=by rw[mX,dX,if_neg (by omega)]
  refine Gc ?_
  refine oO [18,22,23,2022,4018] [[],[],[],[],[],[],[],[],[],[],[],[],[],[],[],[],[],[],[],[18],[18],[18],[],[18,22],[18,22,23]] [0,1,2,3,4,5,6,7,8,9,10,11,12,13,14,15,16,17,18,19,20,21,22,23,24] [ar b2 (bL v) 29] [(22,jl Tryz.prog 110)] (by kernel_rfl) (fun _ hw=>ai.mem hw) (by kernel_rfl) (by kernel_rfl) ?_
  refine an rfl (aH (o':=0) rfl rfl) ?_
  refine an rfl (aH (o':=2) rfl rfl) ?_
  refine an rfl (bI rfl) ?_
  refine an rfl (aF rfl) ?_
  refine an rfl (aH (o':=0) rfl rfl) ?_
  refine an rfl (aH (o':=0) rfl rfl) ?_
  refine an rfl (bI rfl) ?_
  refine an rfl (nR rfl rfl (by omega) (by omega)) ?_
  refine an rfl (bl rfl rfl (((y -1)/v.ag.ae).toNat) (by omega) (by omega)) ?_
  refine an rfl (aH rfl rfl) ?_
  refine an rfl (bO (j:=0) rfl (((y -1)/v.ag.ae).toNat) hB rfl (by decide)) ?_
  refine an rfl (aF rfl) ?_
  refine an rfl (aH (o':=0) rfl rfl) ?_
  refine an rfl (aH (o':=0) rfl rfl) ?_
  refine an rfl (bI rfl) ?_
  refine an rfl (ye rfl rfl (by omega) (by omega)) ?_
  refine an rfl (bl rfl rfl (((y -1)%v.ag.ae).toNat) (by omega) (by omega)) ?_
  refine an rfl (bO (j:=0) rfl (((y -1)%v.ag.ae).toNat) hz rfl (by decide)) ?_
  refine rI rfl rfl trivial (fun e x w hw=>ai.mem hw) (Cert.one (i:=22) rfl rfl rfl iR (Cert.none rfl)) fun zD Mt=>⟨fun _ hw=>ai.mem hw,?_⟩
  have e1:zD.body.xs=(cN z.xs).1.body:=congrArg PV.body Mt
  refine an rfl (aF rfl) ?_
  refine an rfl (aV (v:= .agg (cI zD)) rfl rfl) ?_
  refine an rfl (aV (v:= .int .i64 ((cN z.xs).2)) rfl rfl) ?_
  refine my (m:=jl Tryz.prog 110) rfl rfl iR (Cert.none rfl) fun b6=> ?_
  change Ln _ _ _ _ _ _ _ _ (cw _ _ (.pointer (some ⟨b6,0,none⟩))) (ar b6 (cI mG) 110::_) _
  refine dy rfl (mw rfl rfl ⟨fun _ hw=>ai.mem hw,?_⟩)
  refine an rfl (bn rfl) ?_
  refine Gc ?_
  iterate 2 refine Gs ?_
  refine Gc ?_
  refine av rfl (fun h1=> ?_) (fun h1=> ?_)
  ·
   replace h1:=bz h1
   have hE:(dX (cv v.ag) (v.at_.xs.getD id 0))=[]:=by rw[hI,ju,oo,if_neg h1]
   refine Gc ?_
   refine Gs ?_
   refine Gc ?_
   refine au (.inl rfl) (aM rfl (aq rfl)) (fun w1 hw=> ?_)
   exact⟨Sv.none,rfl,trivial,by rw[hE];exact Mem.dI aN 1 (ai.mem hw:Mem w [] _)⟩
  ·
   replace h1:=bz h1
   have xD:(cN z.xs).2=0:=h1
   have hE:(dX (cv v.ag) (v.at_.xs.getD id 0))=zD.body.xs:=by rw[hI,ju,oo,if_pos xD,e1]
   refine Gc ?_
   iterate 3 refine Gs ?_
   refine Gc ?_
   refine au (.inl rfl) (aM rfl (aq rfl)) (fun w1 hw=> ?_)
   exact⟨zD.body.sv,rfl,trivial,by rw[hE];exact ai.mem hw⟩
instance aim{w0:World}{L:List aj}{v:bT}{id:Nat}[hv:aW w0 L v]:cr Tryz.prog 100 w0 L [.agg (bL v), .int .i64 (id:Nat)] (Sv) (fun zz=>zz.val) (fun zz=>own aN 1 zz (dX (cv v.ag) (v.at_.xs.getD id 0))::L) (fun zz=>True) (aS (cv v.ag)=true∧id<v.at_.xs.length∧ ∀y∈v.at_.xs,0≤y∧y≤65535∧(y≠0→jK (cv v.ag) (y -1)=true)):=⟨fun hp w hw=>(Ya w v id (hv.h w hw) hp).mono fun e w' ⟨x,h1,h2,h3⟩=>⟨x,h1,h2,hw.call h3⟩⟩
open Go.ay Go.Kb
open Go.RowKit
theorem Yb(w:World)(s:Sl (Sl UInt8))(hs:Deep.bh (hp w) s)(bc:s.xs.length≤1000000):Calls Tryz.prog 109 #[s.sv.val] w fun e w'=> ∃zz:Sv,e= .returned (zz.val)∧(True)∧Mem w [own (cc (τ:=UInt8)) 1 zz s.xs] w':=by
 have vb:cC w s:=⟨hs⟩
 refine bf (args:=[_]) Tryz.func109 rfl Tryz.ntmps109 rfl ?_
 change Cw _ _ _ _ _ [(0,s.sv.val)] []
 refine Gc ?_
 refine Gs ?_
 refine Gc ?_
 refine Gs ?_
 refine ah (rD Tryz.underlying46 rfl) ?_
 refine Gc ?_
 refine av rfl (fun h0=> ?_) (fun h0=> ?_)
 ·
  replace h0:=bz h0
  have e0:s.xs=[]:=List.length_eq_zero_iff.1 (by have:=hs.1.ok.nil h0;have:=hs.1.len;omega)
  refine Gc ?_
  refine Gs ?_
  refine Gc ?_
  refine au (.inl rfl) (aM rfl (aq rfl)) (fun w1 hw=> ?_)
  exact⟨Sv.none,rfl,trivial,by rw[e0];exact(ai.mem hw:Mem w [] _).dI (cc (τ:=UInt8)) 1⟩
 ·
  replace h0:=bz h0
  refine Gc ?_
  refine sL (cc (τ:=UInt8)) fun b5=> ?_
  refine Gs ?_
  refine lN (s:=⟨false,b5,0,0,0,none⟩) (enc:=(cc (τ:=UInt8))) (ys:=s.xs) rfl rfl (by decide) (fun w hw=>kI (s:=s.sv) Tryz.underlying46 (by decide) ((inferInstance:c6 _ _ (cc (τ:=UInt8)) 1 s.sv s.xs).h w hw)) (by simp only[List.length_nil];omega) (by simp only[List.length_nil];omega) fun s7 vc tn=> ?_
  refine Gs ?_
  refine Gc ?_
  refine au (.inl rfl) (aM rfl (aq rfl)) (fun w1 hw=> ?_)
  exact⟨s7,rfl,trivial,by rw[List.nil_append]at hw;exact ai.mem hw⟩
instance ain{w0:World}{L:List aj}{s:Sl (Sl UInt8)}[hs:aW w0 L s]:cr Tryz.prog 109 w0 L [s.sv.val] (Sv) (fun zz=>zz.val) (fun zz=>own (cc (τ:=UInt8)) 1 zz s.xs::L) (fun zz=>True) (s.xs.length≤1000000):=⟨fun hp w hw=>(Yb w s (hs.h w hw) hp).mono fun e w' ⟨x,h1,h2,h3⟩=>⟨x,h1,h2,hw.call h3⟩⟩
theorem Yc(w:World)(c:Cp)(hc:Deep.bh (hp w) c)(bc:dM c):Calls Tryz.prog 71 #[.agg (aE c)] w fun e w'=> ∃zz:Cp,e= .returned (.agg (aE zz))∧(cv zz=cv c)∧Mem w [fz zz] w':=by
 have jQ:cC w c:=⟨hc⟩
 obtain⟨lf,ka,nD⟩:=bc
 refine bf (args:=[_]) Tryz.func71 rfl Tryz.ntmps71 rfl ?_
 change Cw _ _ _ _ _ [(0, .agg (aE c))] []
 refine Gc ?_
 refine cq rfl fun b1=> ?_
 refine bN fun b2=> ?_
 refine Gc ?_
 iterate 2 refine Gs ?_
 refine br rfl (by omega) fun x9 zh=> ?_
 refine Gs ?_
 refine eO (cs':=aE (⟨c.ae,c.size,⟨x9,c.blocks.xs⟩,c.ops,c.off,c.aX⟩:Cp)) rfl rfl (by show 2<6;decide) (by first|rfl|exact Sv.one _) rfl ?_
 refine Gc ?_
 iterate 4 refine Gs ?_
 refine Gc ?_
 refine cg (X:=Nat×List Bk) (fun zz=>[(14, .int .i64 (zz.1:Nat)),(1, .pointer (some ⟨b1,0,none⟩)),(2, .pointer (some ⟨b2,0,none⟩)),(12,x9.val),(13, .int .i64 (c.blocks.xs.length:Nat))]) (fun zz=>[own bK 4 x9 zz.2,aj.all ((zz.2.take zz.1).map fun b:Bk=>fz b.ae),ar b2 (aE gf) 25,ar b1 (aE (⟨c.ae,c.size,⟨x9,zz.2⟩,c.ops,c.off,c.aX⟩:Cp)) 25]) (fun zz=>zz.1≤c.blocks.xs.length∧zz.2.length=c.blocks.xs.length∧gy zz.2=gy c.blocks.xs∧ ∀j,zz.1≤j→zz.2[j]? =c.blocks.xs[j]?) (fun zz=>c.blocks.xs.length -zz.1) (0,c.blocks.xs) ⟨Nat.zero_le _,rfl,rfl,fun _ _=>rfl⟩ (Sub.cons rfl (Sub.cons rfl (Sub.cons rfl (Sub.cons rfl (Sub.cons rfl (Sub.nil _)))))) (fun w hw=>by
  simp only[List.take_zero,List.map_nil];exact ai.mem (Mem.uF hw)) ?_
 rintro⟨i,zs⟩ ⟨bk,aG,bB,cV⟩
 dsimp only
 simp only at bk aG bB cV
 refine Gc ?_
 refine Gs ?_
 refine Gc ?_
 refine av rfl (fun h0=> ?_) (fun h0=> ?_)
 ·
  replace h0:=bz h0
  obtain⟨z,hz⟩:=get_some (xs:=zs) (i:=i) (by omega)
  have tt:Mb z c.blocks:=⟨List.mem_of_getElem? (by rw[←cV i (Nat.le_refl _)];exact hz)⟩
  have fv:=nD z tt.h
  obtain⟨Yd,aio⟩:=fv
  rw[jo]at Yd
  refine Gc ?_
  refine Gs ?_
  refine ah (bl rfl rfl i rfl (by omega)) ?_
  refine ah (hH rfl i hz rfl) ?_
  refine bN fun b4=> ?_
  iterate 2 refine Gs ?_
  refine Gc ?_
  iterate 2 refine Gs ?_
  refine br rfl (by omega) fun jc Ge=> ?_
  refine Gs ?_
  refine Gc ?_
  iterate 3 refine Gs ?_
  refine Gc ?_
  refine cg (X:=Nat×List (Sl UInt8)) (fun zz=>[(24, .int .i64 (zz.1:Nat)),(5,jc.val),(1, .pointer (some ⟨b1,0,none⟩)),(2, .pointer (some ⟨b2,0,none⟩)),(3, .int .i64 (i:Nat)),(12,x9.val),(13, .int .i64 (c.blocks.xs.length:Nat)),(14, .int .i64 (i:Nat)),(23, .int .i64 (z.ae.xs.length:Nat))]) (fun zz=>[own (cc (τ:=UInt8)) 1 jc zz.2,aj.all ((zz.2.take zz.1).map fun b:Sl UInt8=>fz b),ar b4 (bK z) 48,own bK 4 x9 zs,aj.all ((zs.take i).map fun b:Bk=>fz b.ae),ar b2 (aE gf) 25,ar b1 (aE (⟨c.ae,c.size,⟨x9,zs⟩,c.ops,c.off,c.aX⟩:Cp)) 25]) (fun zz=>zz.1≤z.ae.xs.length∧zz.2.length=z.ae.xs.length∧aJ zz.2=aJ z.ae.xs∧ ∀k,zz.1≤k→zz.2[k]? =z.ae.xs[k]?) (fun zz=>z.ae.xs.length -zz.1) (0,z.ae.xs) ⟨Nat.zero_le _,rfl,rfl,fun _ _=>rfl⟩ (Sub.cons rfl (Sub.cons rfl (Sub.cons rfl (Sub.cons rfl (Sub.cons rfl (Sub.cons rfl (Sub.cons rfl (Sub.cons rfl (Sub.cons rfl (Sub.nil _)))))))))) (fun w hw=>by
   simp only[List.take_zero,List.map_nil];exact ai.mem (Mem.uF hw)) ?_
  rintro⟨j,qs⟩ ⟨iC,dF,iN,lj⟩
  dsimp only
  simp only at iC dF iN lj
  refine Gc ?_
  refine Gs ?_
  refine Gc ?_
  refine av rfl (fun h1=> ?_) (fun h1=> ?_)
  ·
   replace h1:=bz h1
   obtain⟨y,hy⟩:=get_some (xs:=qs) (i:=j) (by omega)
   have GR:z.ae.xs[j]? =some y:=by rw[←lj j (Nat.le_refl _)];exact hy
   have xf:Mb y z.ae:=⟨List.mem_of_getElem? GR⟩
   have w8:=yT (kL GR)
   have iM:=yU (aJ z.ae.xs) (j+1)
   have Ye:y.xs.length≤140737488355328:=by rw[w8]at iM;omega
   refine Gc ?_
   iterate 2 refine Gs ?_
   iterate 2 refine Gi ?_
   refine A5 (s:=jc) (enc:=cc (τ:=UInt8)) (c:=1) (xs:=qs) inferInstance (by omega) fun aip aiq Yf air=> ?_
   refine Gi ?_
   iterate 4 refine Gs ?_
   refine ah (bl rfl rfl j rfl (by omega)) ?_
   refine ah (bO (j:=0) rfl j hy rfl (by decide)) ?_
   refine br rfl Ye fun jR tA=> ?_
   obtain⟨vp,GO⟩:=get_some (xs:=qs) (i:=j) (by omega)
   refine ah (lu (s:=jc) (i:=j) rfl rfl rfl Yf (by omega)) ?_
   refine AM (s:=jc) (xs:=qs) (k:=j) (a:=y) (⟨jR,y.xs⟩:Sl UInt8) (by kernel_rfl) rfl rfl rfl hy ?_
   refine Gc ?_
   iterate 2 refine Gs ?_
   refine Gi ?_
   exact bD (x:=(j,qs)) (j+1,qs.set j (⟨jR,y.xs⟩:Sl UInt8)) ⟨by first|omega|(simp only[];omega),by rw[List.length_set];exact dF,by rw[aJ,List.map_set,←aJ,iN];exact sU (z:=y.xs) (kL GR),fun k hk=>by rw[List.getElem?_set_ne (by first|omega|(simp only[];omega))];exact lj k (by first|omega|(simp only[];omega))⟩ (by simp only;omega) (Sub.cons rfl (Sub.cons rfl (Sub.cons rfl (Sub.cons rfl (Sub.cons rfl (Sub.cons rfl (Sub.cons rfl (Sub.cons rfl (Sub.cons rfl (Sub.nil _)))))))))) (fun w hw=>by
    have h1:=ED (a:=(⟨jR,y.xs⟩:Sl UInt8)) (ai.mem hw:Mem _ (own aN 1 jR y.xs::[own (cc (τ:=UInt8)) 1 jc (qs.set j (⟨jR,y.xs⟩:Sl UInt8)),aj.all ((qs.take j).map fun b:Sl UInt8=>fz b),ar b4 (bK z) 48,own bK 4 x9 zs,aj.all ((zs.take i).map fun b:Bk=>fz b.ae),ar b2 (aE gf) 25,ar b1 (aE (⟨c.ae,c.size,⟨x9,zs⟩,c.ops,c.off,c.aX⟩:Cp)) 25]) _)
    have h3:=Mem.wy (ai.mem h1:Mem _ (fz (⟨jR,y.xs⟩:Sl UInt8)::aj.all ((qs.take j).map fun b:Sl UInt8=>fz b)::[own (cc (τ:=UInt8)) 1 jc (qs.set j (⟨jR,y.xs⟩:Sl UInt8)),ar b4 (bK z) 48,own bK 4 x9 zs,aj.all ((zs.take i).map fun b:Bk=>fz b.ae),ar b2 (aE gf) 25,ar b1 (aE (⟨c.ae,c.size,⟨x9,zs⟩,c.ops,c.off,c.aX⟩:Cp)) 25]) _)
    rw[EN (z':=(⟨jR,y.xs⟩:Sl UInt8)) hy]at h3
    exact ai.mem h3)
  ·
   replace h1:=bz h1
   obtain rfl:j=qs.length:=by omega
   rw[List.take_of_length_le (Nat.le_refl _)]at*
   iterate 5 refine Gi ?_
   refine A5 (s:=x9) (enc:=bK) (c:=4) (xs:=zs) inferInstance (by omega) fun hn9 hs9 Yg hl9=> ?_
   refine Gi ?_
   iterate 4 refine Gs ?_
   obtain⟨Yh,Yi⟩:=get_some (xs:=zs) (i:=i) (by omega)
   refine ah (lu (s:=x9) (i:=i) rfl rfl rfl Yg (by omega)) ?_
   refine ah (aH rfl rfl) ?_
   refine kJ (n:=1) (k:=i) (j:=0) (a:=z) (a':=({z with ae:=⟨jc,qs⟩}:Bk)) (xs:=zs) (enc:=bK) (c:=4) (v:=jc.val) (by kernel_rfl) rfl rfl rfl hz (by rw[Sv.iQ];simp[Sv.one]) (by rw[Sv.iQ];rfl) (by decide) (by rw[Sv.iQ];rfl) ?_
   refine Gc ?_
   iterate 2 refine Gs ?_
   refine Gi ?_
   exact bD (x:=(i,zs)) (i+1,zs.set i ({z with ae:=⟨jc,qs⟩}:Bk)) ⟨by first|omega|(simp only[];omega),by rw[List.length_set];exact aG,by rw[uH,←bB,show bv ({z with ae:=⟨jc,qs⟩}:Bk)=bv z from by rw[bv,bv,iN],←uH,sU hz],fun j hj=>by rw[List.getElem?_set_ne (by first|omega|(simp only[];omega))];exact cV j (by first|omega|(simp only[];omega))⟩ (by simp only;omega) (Sub.cons rfl (Sub.cons rfl (Sub.cons rfl (Sub.cons rfl (Sub.cons rfl (Sub.nil _)))))) (fun w hw=>by
    have h1:=EM (ai.mem hw:Mem _ (own (cc (τ:=UInt8)) 1 jc qs::aj.all (qs.map fun b:Sl UInt8=>fz b)::[own bK 4 x9 (zs.set i ({z with ae:=⟨jc,qs⟩}:Bk)),aj.all ((zs.take i).map fun b:Bk=>fz b.ae),ar b2 (aE gf) 25,ar b1 (aE (⟨c.ae,c.size,⟨x9,zs⟩,c.ops,c.off,c.aX⟩:Cp)) 25]) _)
    have h3:=Mem.wy (ai.mem h1:Mem _ (fz (⟨jc,qs⟩:Sl (Sl UInt8))::aj.all ((zs.take i).map fun b:Bk=>fz b.ae)::[own bK 4 x9 (zs.set i ({z with ae:=⟨jc,qs⟩}:Bk)),ar b2 (aE gf) 25,ar b1 (aE (⟨c.ae,c.size,⟨x9,zs⟩,c.ops,c.off,c.aX⟩:Cp)) 25]) _)
    rw[JR (z':=({z with ae:=⟨jc,qs⟩}:Bk)) hz]at h3
    exact(ai.mem h3:Mem _ [own bK 4 x9 (zs.set i ({z with ae:=⟨jc,qs⟩}:Bk)),aj.all (((zs.set i ({z with ae:=⟨jc,qs⟩}:Bk)).take (i+1)).map fun b:Bk=>fz b.ae),ar b2 (aE gf) 25,ar b1 (aE (⟨c.ae,c.size,⟨x9,zs⟩,c.ops,c.off,c.aX⟩:Cp)) 25] _))
 ·
  replace h0:=bz h0
  obtain rfl:i=zs.length:=by omega
  rw[List.take_of_length_le (Nat.le_refl _)]at*
  refine Gc ?_
  refine Gs ?_
  refine ah (Ry.to (v':=c.aX.sv.val) (bI rfl) rfl) ?_
  refine br rfl (by omega) fun qi MO=> ?_
  refine Gs ?_
  refine eO (cs':=aE (⟨c.ae,c.size,⟨x9,zs⟩,c.ops,c.off,⟨qi,c.aX.xs⟩⟩:Cp)) rfl rfl (by show 5<6;decide) (by first|rfl|exact Sv.one _) rfl ?_
  refine Gc ?_
  iterate 2 refine Gs ?_
  refine Gc ?_
  refine au (.inl rfl) (aM rfl (cj rfl)) (fun w1 hw=> ?_)
  exact⟨(⟨c.ae,c.size,⟨x9,zs⟩,c.ops,c.off,⟨qi,c.aX.xs⟩⟩:Cp),rfl,by simp only[cv,bB],Bg (d:=(⟨c.ae,c.size,⟨x9,zs⟩,c.ops,c.off,⟨qi,c.aX.xs⟩⟩:Cp)) ((Jz (a:=(⟨qi,c.aX.xs⟩:Sl Ft)) ((JO (ai.mem hw:Mem w (own bK 4 x9 zs::aj.all (zs.map fun b:Bk=>fz b.ae)::[own dh 4 qi c.aX.xs]) _)).perm (List.Perm.swap _ _ _))).perm (List.Perm.swap _ _ _))⟩
instance ais{w0:World}{L:List aj}{c:Cp}[hc:aW w0 L c]:cr Tryz.prog 71 w0 L [.agg (aE c)] (Cp) (fun zz=> .agg (aE zz)) (fun zz=>fz zz::L) (fun zz=>cv zz=cv c) (dM c):=⟨fun hp w hw=>(Yc w c (hc.h w hw) hp).mono fun e w' ⟨x,h1,h2,h3⟩=>⟨x,h1,h2,hw.call h3⟩⟩
open Go.ay Go.Kb
open Go.RowKit
theorem Yj(w:World)(c:Cp)(hc:Deep.bh (hp w) c):Calls Tryz.prog 54 #[.agg (aE c)] w fun e w'=> ∃zz:cf×Sl (Sl UInt8),e= .returned (.tuple #[.agg (bS zz.1),zz.2.sv.val, .int .i64 ((dg (cv c)).2)])∧(bF zz.1=(dg (cv c)).1∧lx zz.2=jA (cv c))∧Mem w [fz zz.1,fz zz.2] w':=by
 have jQ:cC w c:=⟨hc⟩
 refine bf (args:=[_]) Tryz.func54 rfl Tryz.ntmps54 rfl ?_
 change Cw _ _ _ _ _ [(0, .agg (aE c))] []
 refine Gc ?_
 refine cq rfl fun b1=> ?_
 refine bN fun b2=> ?_
 iterate 2 refine Gs ?_
 refine Gc ?_
 iterate 3 refine Gs ?_
 refine Gc ?_
 refine av rfl (fun h0=> ?_) (fun h0=> ?_)
 ·
  replace h0:=bz h0
  have hE:=Lt h0
  refine Gc ?_
  refine ah (cU (v:= .agg (bS ld)) rfl (fun w=>by kernel_rfl)) ?_
  iterate 3 refine Gs ?_
  refine Gc ?_
  refine au (.inl rfl) (sJ rfl (cj rfl) (aq rfl) (aq rfl)) (fun w1 hw=> ?_)
  exact⟨(ld,⟨Sv.none,[]⟩),by rw[hE.1];rfl,⟨by rw[hE.1];rfl,by rw[hE.2];rfl⟩,B9 (w6 (ai.mem hw:Mem w [] _))⟩
 ·
  replace h0:=bz h0
  refine Gc ?_
  refine Gs ?_
  refine br rfl trivial fun aD ki=> ?_
  have Yk:=Kg (cv c)
  rw[Tk]at ki
  have CM:aD.at_.xs=(bC (cv c)).1.at_:=congrArg VV.at_ ki
  rw[←CM]at Yk
  have ait: ∀(L:List aj) [Hd w L aD.at_.sv bP 1 aD.at_.xs],aW w L aD.at_:=fun L q=>⟨fun w h=>⟨q.h w h,fun _ _=>trivial⟩⟩
  have aiu: ∀(L:List aj) [aW w L aD.ag] [aW w L aD.at_],aW w L aD:=fun L p q=>⟨fun w h=>⟨p.h w h,q.h w h⟩⟩
  refine Gs ?_
  refine ah (aV (v:= .agg (bL aD)) rfl rfl) ?_
  refine ah (aV (v:= .int .i64 ((bC (cv c)).2)) rfl rfl) ?_
  refine bN fun b5=> ?_
  iterate 2 refine Gs ?_
  refine Gc ?_
  iterate 2 refine Gs ?_
  refine Gc ?_
  refine av rfl (fun h1=> ?_) (fun h1=> ?_)
  ·
   replace h1:=bz h1
   have hE:=Lu h0 h1
   refine Gc ?_
   refine ah (cU (v:= .agg (bS ld)) rfl (fun w=>by kernel_rfl)) ?_
   iterate 4 refine Gs ?_
   refine Gc ?_
   refine au (.inl rfl) (sJ rfl (cj rfl) (aq rfl) (aq rfl)) (fun w1 hw=> ?_)
   exact⟨(ld,⟨Sv.none,[]⟩),by rw[hE.1];rfl,⟨by rw[hE.1];rfl,by rw[hE.2];rfl⟩,B9 (w6 (ai.mem hw:Mem w [] _))⟩
  ·
   replace h1:=bz h1
   have xD:(bC (cv c)).2=0:=h1
   have GS:kO (vv aD)=true:=by rw[ki];exact T3 xD
   have xX:cv aD.ag=(vv aD).ag:=rfl
   have Ym:aS (cv aD.ag)=true:=(BA GS).1
   have Yn: ∀y∈aD.at_.xs,0≤y∧y≤65535∧(y≠0→jK (cv aD.ag) (y -1)=true):=fun y hy=>by
    obtain⟨g1,g2⟩:=(BA GS).2.2 y hy
    obtain⟨j,hj⟩:=List.getElem?_of_mem hy
    exact⟨g1,g2,fun g=>(Ki GS hj g).2.2⟩
   refine Gc ?_
   refine iF (by kernel_rfl) (by kernel_rfl) ?_
   iterate 4 refine Gq ?_
   refine ug (cM rfl trivial) ?_
   refine Gq ?_
   refine Gc ?_
   refine av rfl (fun h2=> ?_) (fun h2=> ?_)
   ·
    replace h2:=bz h2
    have zN:(((bC (cv c)).1.at_.length:Nat):Int)≠dS (cv c):=by rw[←CM];exact h2
    have hE:=Lw h0 xD zN
    refine Gc ?_
    refine ah (cU (v:= .agg (bS ld)) rfl (fun w=>by kernel_rfl)) ?_
    iterate 3 refine Gs ?_
    refine Gc ?_
    refine au (.inl rfl) (sJ rfl (cj rfl) (aq rfl) (aq rfl)) (fun w1 hw=> ?_)
    exact⟨(ld,⟨Sv.none,[]⟩),by rw[hE.1];rfl,⟨by rw[hE.1];rfl,by rw[hE.2];rfl⟩,B9 (w6 (ai.mem hw:Mem w [] _))⟩
   ·
    replace h2:=bz h2
    have zN:(((bC (cv c)).1.at_.length:Nat):Int)=dS (cv c):=by rw[←CM];exact h2
    have aiv:aD.at_.xs.length≤64:=by have:=FF (cv c);rw[←CM]at zN;omega
    refine Gc ?_
    iterate 3 refine Gs ?_
    refine sI (enc:=cc (τ:=UInt8)) (n:=aD.at_.xs.length) (cap:=aD.at_.xs.length) (⟨Sv.none,[]⟩:Sl UInt8) rfl rfl rfl rfl rfl (by omega) (by omega) (by omega) fun jE=> ?_
    refine Gs ?_
    refine Gc ?_
    iterate 3 refine Gs ?_
    refine Gc ?_
    refine cg (X:=Nat×List (Sl UInt8)) (fun zz=>[(36, .int .i64 (zz.1:Nat)),(7,(⟨false,jE,0,aD.at_.xs.length,aD.at_.xs.length,none⟩:Sv).val),(2, .pointer (some ⟨b2,0,none⟩)),(5, .pointer (some ⟨b5,0,none⟩)),(35, .int .i64 ((List.replicate aD.at_.xs.length (⟨Sv.none,[]⟩:Sl UInt8)).length:Nat))]) (fun zz=>[own (cc (τ:=UInt8)) 1 ⟨false,jE,0,aD.at_.xs.length,aD.at_.xs.length,none⟩ zz.2,aj.all ((zz.2.take zz.1).map fun b:Sl UInt8=>fz b),ar b5 (bL aD) 29,fz aD.ag,own bP 1 aD.at_.sv aD.at_.xs,ar b2 (bS ld) 54,ar b1 (aE c) 25]) (fun zz=>zz.1≤aD.at_.xs.length∧zz.2.length=aD.at_.xs.length∧aJ (zz.2.take zz.1)=(aD.at_.xs.take zz.1).map (dX (cv aD.ag))) (fun zz=>aD.at_.xs.length -zz.1) (0,List.replicate aD.at_.xs.length (⟨Sv.none,[]⟩:Sl UInt8)) ⟨Nat.zero_le _,by simp,by simp[aJ]⟩ (Sub.cons rfl (Sub.cons rfl (Sub.cons rfl (Sub.cons rfl (Sub.cons rfl (Sub.nil _)))))) (fun w hw=>by
     simp only[List.take_zero,List.map_nil];exact ai.mem (Mem.uF hw)) ?_
    rintro⟨i,qs⟩ ⟨bk,aG,bB⟩
    dsimp only
    simp only at bk aG bB
    refine Gc ?_
    refine Gs ?_
    refine Gc ?_
    refine av rfl (fun h3=> ?_) (fun h3=> ?_)
    ·
     replace h3:=bz h3
     rw[List.length_replicate]at h3
     obtain⟨q,hq⟩:=get_some (xs:=qs) (i:=i) (by omega)
     obtain⟨y,hy⟩:=get_some (xs:=aD.at_.xs) (i:=i) (by omega)
     have mX:aD.at_.xs.getD i 0=y:=ob hy
     refine Gc ?_
     iterate 2 refine Gs ?_
     iterate 2 refine Gi ?_
     have Yo:=Bt (b:=jE) (n:=aD.at_.xs.length) (by omega)
     refine Gi ?_
     iterate 4 refine Gs ?_
     refine br rfl ⟨Ym,by omega,Yn⟩ fun jC pq=> ?_
     obtain⟨e44,aiw⟩:=get_some (xs:=qs) (i:=i) (by omega)
     refine ah (lu (s:=⟨false,jE,0,aD.at_.xs.length,aD.at_.xs.length,none⟩) (i:=i) rfl rfl rfl Yo (by simp only;omega)) ?_
     refine AM (s:=⟨false,jE,0,aD.at_.xs.length,aD.at_.xs.length,none⟩) (xs:=qs) (k:=i) (a:=q) (⟨jC,dX (cv aD.ag) (aD.at_.xs.getD i 0)⟩:Sl UInt8) (by kernel_rfl) rfl rfl (by omega) hq ?_
     refine Gc ?_
     iterate 2 refine Gs ?_
     refine Gi ?_
     exact bD (x:=(i,qs)) (i+1,qs.set i (⟨jC,dX (cv aD.ag) (aD.at_.xs.getD i 0)⟩:Sl UInt8)) ⟨by first|omega|(simp only[];omega),by rw[List.length_set];exact aG,by rw[aJ,Bs hq,←aJ,bB,List.take_add_one,hy,List.map_append,mX];rfl⟩ (by simp only;omega) (Sub.cons rfl (Sub.cons rfl (Sub.cons rfl (Sub.cons rfl (Sub.cons rfl (Sub.nil _)))))) (fun w hw=>by
      have h1:=ED (a:=(⟨jC,dX (cv aD.ag) (aD.at_.xs.getD i 0)⟩:Sl UInt8)) (ai.mem hw:Mem _ (own aN 1 jC (dX (cv aD.ag) (aD.at_.xs.getD i 0))::[own (cc (τ:=UInt8)) 1 ⟨false,jE,0,aD.at_.xs.length,aD.at_.xs.length,none⟩ (qs.set i (⟨jC,dX (cv aD.ag) (aD.at_.xs.getD i 0)⟩:Sl UInt8)),aj.all ((qs.take i).map fun b:Sl UInt8=>fz b),ar b5 (bL aD) 29,fz aD.ag,own bP 1 aD.at_.sv aD.at_.xs,ar b2 (bS ld) 54,ar b1 (aE c) 25]) _)
      have h3:=Mem.wy (ai.mem h1:Mem _ (fz (⟨jC,dX (cv aD.ag) (aD.at_.xs.getD i 0)⟩:Sl UInt8)::aj.all ((qs.take i).map fun b:Sl UInt8=>fz b)::[own (cc (τ:=UInt8)) 1 ⟨false,jE,0,aD.at_.xs.length,aD.at_.xs.length,none⟩ (qs.set i (⟨jC,dX (cv aD.ag) (aD.at_.xs.getD i 0)⟩:Sl UInt8)),ar b5 (bL aD) 29,fz aD.ag,own bP 1 aD.at_.sv aD.at_.xs,ar b2 (bS ld) 54,ar b1 (aE c) 25]) _)
      rw[EN (z':=(⟨jC,dX (cv aD.ag) (aD.at_.xs.getD i 0)⟩:Sl UInt8)) hq]at h3
      exact ai.mem h3)
    ·
     replace h3:=bz h3
     rw[List.length_replicate]at h3
     obtain rfl:i=qs.length:=by omega
     rw[List.take_of_length_le (Nat.le_refl _)]at*
     rw[List.take_of_length_le (by omega)]at bB
     have rV:lx (⟨⟨false,jE,0,aD.at_.xs.length,aD.at_.xs.length,none⟩,qs⟩:Sl (Sl UInt8))=ct (bC (cv c)).1:=by rw[←ki];exact bB
     have du: ∀x∈qs,x.xs.length≤100000:=fun x hx=>by
      have hm:x.xs∈aJ qs:=List.mem_map_of_mem (f:=fun x:Sl UInt8=>x.xs) hx
      rw[bB]at hm
      obtain⟨y,_,Yp⟩:=List.mem_map.1 hm
      rw[←Yp]
      exact Nat.le_trans (T5 _ _) (by decide)
     iterate 6 refine Gi ?_
     refine qB [fz (⟨⟨false,jE,0,aD.at_.xs.length,aD.at_.xs.length,none⟩,qs⟩:Sl (Sl UInt8)),ar b5 (bL aD) 29,fz aD.ag,own bP 1 aD.at_.sv aD.at_.xs,ar b2 (bS ld) 54,ar b1 (aE c) 25] (fun w hw=>ai.mem (EM (ai.mem hw:Mem _ (own (cc (τ:=UInt8)) 1 ⟨false,jE,0,aD.at_.xs.length,aD.at_.xs.length,none⟩ qs::aj.all (qs.map fun b:Sl UInt8=>fz b)::[ar b5 (bL aD) 29,fz aD.ag,own bP 1 aD.at_.sv aD.at_.xs,ar b2 (bS ld) 54,ar b1 (aE c) 25]) _))) ?_
     refine Gi ?_
     refine Gs ?_
     refine br (hc:=XZ (a:=(⟨⟨false,jE,0,aD.at_.xs.length,aD.at_.xs.length,none⟩,qs⟩:Sl (Sl UInt8)))) rfl ⟨by show qs.length≤1000;omega,du⟩ fun tD Mu=> ?_
     refine Gs ?_
     refine ah (aV (v:=tD.val) rfl rfl) ?_
     refine ah (aV (v:= .int .i64 (jO (lx (⟨⟨false,jE,0,aD.at_.xs.length,aD.at_.xs.length,none⟩,qs⟩:Sl (Sl UInt8))))) rfl rfl) ?_
     iterate 2 refine Gs ?_
     refine Gc ?_
     iterate 2 refine Gs ?_
     refine Gc ?_
     refine av rfl (fun h4=> ?_) (fun h4=> ?_)
     ·
      replace h4:=bz h4
      rw[rV]at h4
      have hE:=Ly h0 xD zN h4
      refine Gc ?_
      refine ah (cU (v:= .agg (bS ld)) rfl (fun w=>by kernel_rfl)) ?_
      iterate 3 refine Gs ?_
      refine Gc ?_
      refine au (.inl rfl) (sJ rfl (cj rfl) (aq rfl) (aq rfl)) (fun w1 hw=> ?_)
      exact⟨(ld,⟨Sv.none,[]⟩),by rw[hE.1];rfl,⟨by rw[hE.1];rfl,by rw[hE.2];rfl⟩,B9 (w6 (ai.mem hw:Mem w [] _))⟩
     ·
      replace h4:=bz h4
      have MP:=h4
      rw[rV]at MP
      have hE:=B6 h0 xD zN MP
      refine Gc ?_
      iterate 2 refine Gs ?_
      refine ah (cU (v:= .agg (bS (⟨aD,⟨tD,iZ (lx (⟨⟨false,jE,0,aD.at_.xs.length,aD.at_.xs.length,none⟩,qs⟩:Sl (Sl UInt8)))⟩⟩:cf))) rfl (GQ aD ⟨tD,iZ (lx (⟨⟨false,jE,0,aD.at_.xs.length,aD.at_.xs.length,none⟩,qs⟩:Sl (Sl UInt8)))⟩)) ?_
      iterate 4 refine Gs ?_
      refine Gc ?_
      refine au (.inl rfl) (sJ rfl (cj rfl) (aq rfl) (aq rfl)) (fun w1 hw=> ?_)
      exact⟨((⟨aD,⟨tD,iZ (lx (⟨⟨false,jE,0,aD.at_.xs.length,aD.at_.xs.length,none⟩,qs⟩:Sl (Sl UInt8)))⟩⟩:cf),(⟨⟨false,jE,0,aD.at_.xs.length,aD.at_.xs.length,none⟩,qs⟩:Sl (Sl UInt8))),by rw[hE.1],⟨by rw[hE.1];simp only[bF,rV,ki],by rw[hE.2];exact rV⟩,Lz (f:=(⟨aD,⟨tD,iZ (lx (⟨⟨false,jE,0,aD.at_.xs.length,aD.at_.xs.length,none⟩,qs⟩:Sl (Sl UInt8)))⟩⟩:cf)) (ai.mem hw:Mem w [fz aD.ag,own bP 1 aD.at_.sv aD.at_.xs,own ax 19 tD (iZ (lx (⟨⟨false,jE,0,aD.at_.xs.length,aD.at_.xs.length,none⟩,qs⟩:Sl (Sl UInt8)))),fz (⟨⟨false,jE,0,aD.at_.xs.length,aD.at_.xs.length,none⟩,qs⟩:Sl (Sl UInt8))] _)⟩
instance aix{w0:World}{L:List aj}{c:Cp}[hc:aW w0 L c]:cr Tryz.prog 54 w0 L [.agg (aE c)] (cf×Sl (Sl UInt8)) (fun zz=> .tuple #[.agg (bS zz.1),zz.2.sv.val, .int .i64 ((dg (cv c)).2)]) (fun zz=>fz zz.1::fz zz.2::L) (fun zz=>bF zz.1=(dg (cv c)).1∧lx zz.2=jA (cv c)) (True):=⟨fun hp w hw=>(Yj w c (hc.h w hw)).mono fun e w' ⟨x,h1,h2,h3⟩=>⟨x,h1,h2,hw.call h3⟩⟩
open Go.ay Go.Kb
open Go.RowKit
theorem Yq(w:World)(x:Sv)(xs:List Rt)(y:Sv)(ys:List Rt)(hx:bV ax 19 (hp w) x xs)(hy:bV ax 19 (hp w) y ys):Calls Tryz.prog 105 #[x.val,y.val] w fun e w'=>e= .returned (.bool (decide (xs=ys)))∧Mem w [] w':=by
 have xe:Gv w x ax 19 xs:=⟨hx⟩
 have L3:Gv w y ax 19 ys:=⟨hy⟩
 have Cm:=hx.bd
 refine bf (args:=[_,_]) Tryz.func105 rfl Tryz.ntmps105 rfl ?_
 change Cw _ _ _ _ _ [(0,x.val),(1,y.val)] []
 refine Gc ?_
 refine Gs ?_
 refine Gc ?_
 iterate 5 refine Gs ?_
 refine Gc ?_
 refine av rfl (fun h0=> ?_) (fun h0=> ?_)
 ·
  replace h0:=bz h0
  have hz:decide (xs=ys)=false:=decide_eq_false fun e=>h0 (by rw[e])
  refine Gc ?_
  refine Gs ?_
  refine Gc ?_
  refine au (.inl rfl) (aM rfl (aq rfl)) (fun w1 hw=> ?_)
  exact⟨congrArg (fun b=>Ending.returned (Value.bool b)) (hz.symm),ai.mem hw⟩
 ·
  replace h0:=bz h0
  have nw:xs.length=ys.length:=by omega
  refine Gc ?_
  iterate 3 refine Gs ?_
  refine Gc ?_
  refine cg (X:=Nat) (fun zz=>[(13, .int .i64 (zz:Nat)),(0,x.val),(1,y.val),(12, .int .i64 (xs.length:Nat))]) (fun zz=>[]) (fun zz=>zz≤xs.length∧ ∀j,j<zz→xs[j]? =ys[j]?) (fun zz=>xs.length -zz) 0 ⟨Nat.zero_le _,fun j hj=>by first|omega|(simp only[];omega)⟩ (Sub.cons rfl (Sub.cons rfl (Sub.cons rfl (Sub.cons rfl (Sub.nil _))))) (fun w hw=>ai.mem hw) ?_
  rintro i ⟨bk,aG⟩
  refine Gc ?_
  refine Gs ?_
  refine Gc ?_
  refine av rfl (fun h1=> ?_) (fun h1=> ?_)
  ·
   replace h1:=bz h1
   obtain⟨p,jV⟩:=get_some (xs:=xs) (i:=i) (by omega)
   obtain⟨q,rZ⟩:=get_some (xs:=ys) (i:=i) (by omega)
   refine Gc ?_
   iterate 2 refine Gs ?_
   refine Gc ?_
   refine iF (by kernel_rfl) (by kernel_rfl) ?_
   iterate 2 refine Gq ?_
   refine bm (bl rfl rfl i rfl (by omega)) ?_
   refine bm (hH rfl i jV rfl) ?_
   iterate 2 refine Gq ?_
   refine bm (bl rfl rfl i rfl (by omega)) ?_
   refine bm (hH rfl i rZ rfl) ?_
   refine bm (H7 rfl rfl) ?_
   refine Gc ?_
   refine av rfl (fun h2=> ?_) (fun h2=> ?_)
   ·
    replace h2:=bz h2
    have hz:decide (xs=ys)=false:=decide_eq_false fun e=>h2 (by rw[e]at jV;rw[jV]at rZ;cases rZ;rfl)
    refine Gc ?_
    refine Gs ?_
    refine Gc ?_
    refine au (.inl rfl) (aM rfl (aq rfl)) (fun w1 hw=> ?_)
    exact⟨congrArg (fun b=>Ending.returned (Value.bool b)) (hz.symm),ai.mem hw⟩
   ·
    replace h2:=bz h2
    refine Gc ?_
    iterate 2 refine Gs ?_
    refine Gi ?_
    exact bD (x:=(i)) (i+1) ⟨by first|omega|(simp only[];omega),fun j hj=>if e:j=i then(by subst e;rw[jV,rZ,h2])else aG j (by first|omega|(simp only[];omega))⟩ (by first|omega|(simp only[];omega)) (Sub.cons rfl (Sub.cons rfl (Sub.cons rfl (Sub.cons rfl (Sub.nil _))))) (fun w hw=>ai.mem hw)
  ·
   replace h1:=bz h1
   obtain rfl:i=xs.length:=by omega
   have hz:decide (xs=ys)=true:=decide_eq_true (List.ext_getElem? fun j=>by
    rcases Nat.lt_or_ge j xs.length with hj|hj
    ·
     exact aG j hj
    ·
     rw[List.getElem?_eq_none hj,List.getElem?_eq_none (by omega)])
   refine Gc ?_
   refine Gs ?_
   refine Gc ?_
   refine au (.inl rfl) (aM rfl (aq rfl)) (fun w1 hw=> ?_)
   exact⟨congrArg (fun b=>Ending.returned (Value.bool b)) (hz.symm),ai.mem hw⟩
instance aiy{w0:World}{L:List aj}{x:Sv}{xs:List Rt}{y:Sv}{ys:List Rt}[hx:c6 w0 L ax 19 x xs][hy:c6 w0 L ax 19 y ys]:cL Tryz.prog 105 w0 L [x.val,y.val] (.bool (decide (xs=ys))) (True):=⟨fun hp w hw=>Yq w x xs y ys (hx.h w hw) (hy.h w hw)⟩
theorem Yr(w:World)(f:cf)(hf:Deep.bh (hp w) f):Calls Tryz.prog 62 #[.agg (bS f)] w fun e w'=> ∃zz:Sl (Sl UInt8),e= .returned (.tuple #[zz.sv.val, .bool (gp (bF f))])∧(gp (bF f)=true→lx zz=jA {(bF f).al.ag with off:=false})∧Mem w [fz zz] w':=by
 have CN:cC w f:=⟨hf⟩
 refine bf (args:=[_]) Tryz.func62 rfl Tryz.ntmps62 rfl ?_
 change Cw _ _ _ _ _ [(0, .agg (bS f))] []
 refine Gc ?_
 refine cq rfl fun b1=> ?_
 iterate 2 refine Gs ?_
 refine Gc ?_
 iterate 2 refine Gs ?_
 refine ah (jj rfl) ?_
 refine bN fun b4=> ?_
 refine Gs ?_
 refine Gc ?_
 refine Gs ?_
 refine eO (cs':=aE (⟨f.al.ag.ae,f.al.ag.size,f.al.ag.blocks,f.al.ag.ops,false,f.al.ag.aX⟩:Cp)) rfl rfl (by show 4<6;decide) (by first|rfl|exact Sv.one _) rfl ?_
 refine Gc ?_
 refine Gs ?_
 refine br rfl trivial fun lG xu=> ?_
 have CO:bF lG.1=(dg {(bF f).al.ag with off:=false}).1:=xu.1
 have g1:lG.1.al.gen.toNat=(dg {(bF f).al.ag with off:=false}).1.al.gen:=congrArg (fun z:FV=>z.al.gen) CO
 have g2:lG.1.al.last=(dg {(bF f).al.ag with off:=false}).1.al.last:=congrArg (fun z:FV=>z.al.last) CO
 have g3:lG.1.al.at_.xs=(dg {(bF f).al.ag with off:=false}).1.al.at_:=congrArg (fun z:FV=>z.al.at_) CO
 have g4:lG.1.table.xs=(dg {(bF f).al.ag with off:=false}).1.table:=congrArg FV.table CO
 have hS:gp (bF f)=true↔(dg {(bF f).al.ag with off:=false}).2=0∧f.al.gen.toNat=lG.1.al.gen.toNat∧f.al.last=lG.1.al.last∧f.al.at_.xs=lG.1.al.at_.xs∧f.table.xs=lG.1.table.xs:=by rw[FE,g1,g2,g3,g4];rfl
 refine Gs ?_
 refine ah (aV (v:= .agg (bS lG.1)) rfl rfl) ?_
 refine ah (aV (v:=lG.2.sv.val) rfl rfl) ?_
 refine ah (aV (v:= .int .i64 ((dg (cv (⟨f.al.ag.ae,f.al.ag.size,f.al.ag.blocks,f.al.ag.ops,false,f.al.ag.aX⟩:Cp))).2)) rfl rfl) ?_
 refine bN fun b5=> ?_
 iterate 3 refine Gs ?_
 refine Gc ?_
 iterate 3 refine Gs ?_
 refine Gg ?_
 refine ca rfl rfl rfl (fun hg=>(Ry.yl (aH (o':=7) (aI hg rfl) rfl))) ?_
 iterate 2 refine Gg ?_
 refine ca rfl rfl rfl (fun hg=>(Ry.yl (aH (o':=7) (aI hg rfl) rfl))) ?_
 iterate 2 refine Gg ?_
 iterate 2 refine Gs ?_
 refine Gg ?_
 refine ca rfl rfl rfl (fun hg=>(Ry.yl (aH (o':=8) (aI hg rfl) rfl))) ?_
 iterate 2 refine Gg ?_
 refine ca rfl rfl rfl (fun hg=>(Ry.yl (aH (o':=8) (aI hg rfl) rfl))) ?_
 iterate 2 refine Gg ?_
 refine Gs ?_
 refine Gc ?_
 refine av rfl (fun h0=> ?_) (fun h0=> ?_)
 ·
  replace h0:=bz h0
  have hE:gp (bF f)=false:=by
   cases hk:gp (bF f)with
   |false=>rfl
   |true=>
    obtain⟨q1,q2,q3,q4,q5⟩:=hS.1 hk
    rcases h0 with(h|h)|h
    ·
     exact absurd q1 h
    ·
     omega
    ·
     exact absurd q3 h
  refine Gc ?_
  iterate 2 refine Gs ?_
  refine Gc ?_
  refine au (.inl rfl) (bo rfl (aq rfl) (aq rfl)) (fun w1 hw=> ?_)
  exact⟨⟨Sv.none,[]⟩,by rw[hE];rfl,(fun h=>by rw[hE]at h;cases h),w6 (ai.mem hw:Mem w [] _)⟩
 ·
  replace h0:=bz h0
  refine Gc ?_
  iterate 9 refine Gs ?_
  iterate 4 refine Gg ?_
  refine ca rfl rfl rfl (fun hg=>cM (dP (aI hg rfl) (dP (aI hg rfl) gP)) trivial) ?_
  refine ca rfl rfl rfl (fun hg=>(Ry.yl (iu (aI hg rfl)))) ?_
  refine Gs ?_
  refine Gc ?_
  refine av rfl (fun h1=> ?_) (fun h1=> ?_)
  ·
   replace h1:=bz h1
   have hE:gp (bF f)=false:=by
    cases hk:gp (bF f)with
    |false=>rfl
    |true=>
     obtain⟨q1,q2,q3,q4,q5⟩:=hS.1 hk
     rcases h1 with h|h
     ·
      exact absurd q4 h
     ·
      exact absurd q5 h
   refine Gc ?_
   iterate 2 refine Gs ?_
   refine Gc ?_
   refine au (.inl rfl) (bo rfl (aq rfl) (aq rfl)) (fun w1 hw=> ?_)
   exact⟨⟨Sv.none,[]⟩,by rw[hE];rfl,(fun h=>by rw[hE]at h;cases h),w6 (ai.mem hw:Mem w [] _)⟩
  ·
   replace h1:=bz h1
   have hE:gp (bF f)=true:=hS.2 ⟨h0.1.1,by have:=h0.1.2;omega,h0.2,h1.1,h1.2⟩
   refine Gc ?_
   iterate 3 refine Gs ?_
   refine Gc ?_
   refine au (.inl rfl) (bo rfl (aq rfl) (aq rfl)) (fun w1 hw=> ?_)
   exact⟨lG.2,by rw[hE],(fun _=>xu.2),ai.mem hw⟩
instance aiz{w0:World}{L:List aj}{f:cf}[hf:aW w0 L f]:cr Tryz.prog 62 w0 L [.agg (bS f)] (Sl (Sl UInt8)) (fun zz=> .tuple #[zz.sv.val, .bool (gp (bF f))]) (fun zz=>fz zz::L) (fun zz=>gp (bF f)=true→lx zz=jA {(bF f).al.ag with off:=false}) (True):=⟨fun hp w hw=>(Yr w f (hf.h w hw)).mono fun e w' ⟨x,h1,h2,h3⟩=>⟨x,h1,h2,hw.call h3⟩⟩
theorem Ys(w:World)(f:cf)(hf:Deep.bh (hp w) f):Calls Tryz.prog 28 #[.agg (bS f)] w fun e w'=>e= .returned (.bool (gp (bF f)))∧Mem w [] w':=by
 have CN:cC w f:=⟨hf⟩
 refine bf (args:=[_]) Tryz.func28 rfl Tryz.ntmps28 rfl ?_
 change Cw _ _ _ _ _ [(0, .agg (bS f))] []
 refine Gc ?_
 refine cq rfl fun b1=> ?_
 refine Gs ?_
 refine Gc ?_
 refine Gs ?_
 refine br rfl trivial fun x7 hp7=> ?_
 refine Gs ?_
 refine ah (aV (v:=x7.sv.val) rfl rfl) ?_
 refine ah (aV (v:= .bool (gp (bF f))) rfl rfl) ?_
 iterate 2 refine Gs ?_
 refine Gc ?_
 iterate 2 refine Gs ?_
 refine Gc ?_
 refine au (.inl rfl) (aM rfl (aq rfl)) (fun w1 hw=> ?_)
 exact⟨congrArg (fun b=>Ending.returned (Value.bool b)) (rfl),ai.mem hw⟩
instance aiA{w0:World}{L:List aj}{f:cf}[hf:aW w0 L f]:cL Tryz.prog 28 w0 L [.agg (bS f)] (.bool (gp (bF f))) (True):=⟨fun hp w hw=>Ys w f (hf.h w hw)⟩
theorem Yt(w:World)(c:Cp)(hc:Deep.bh (hp w) c):Calls Tryz.prog 21 #[.agg (aE c)] w fun e w'=> ∃zz:cf,e= .returned (.tuple #[.agg (bS zz), .int .i64 ((dg (cv c)).2)])∧(bF zz=(dg (cv c)).1)∧Mem w [fz zz] w':=by
 have jQ:cC w c:=⟨hc⟩
 refine bf (args:=[_]) Tryz.func21 rfl Tryz.ntmps21 rfl ?_
 change Cw _ _ _ _ _ [(0, .agg (aE c))] []
 refine Gc ?_
 refine cq rfl fun b1=> ?_
 refine bN fun b2=> ?_
 refine Gs ?_
 refine Gc ?_
 refine Gs ?_
 refine br rfl trivial fun x9 zh=> ?_
 refine Gs ?_
 refine ah (aV (v:= .agg (bS x9.1)) rfl rfl) ?_
 refine ah (aV (v:=x9.2.sv.val) rfl rfl) ?_
 refine ah (aV (v:= .int .i64 ((dg (cv c)).2)) rfl rfl) ?_
 refine bN fun b4=> ?_
 iterate 3 refine Gs ?_
 refine Gc ?_
 iterate 4 refine Gs ?_
 refine Gc ?_
 refine au (.inl rfl) (bo rfl (cj rfl) (aq rfl)) (fun w1 hw=> ?_)
 exact⟨x9.1,rfl,zh.1,ai.mem hw⟩
instance aiB{w0:World}{L:List aj}{c:Cp}[hc:aW w0 L c]:cr Tryz.prog 21 w0 L [.agg (aE c)] (cf) (fun zz=> .tuple #[.agg (bS zz), .int .i64 ((dg (cv c)).2)]) (fun zz=>fz zz::L) (fun zz=>bF zz=(dg (cv c)).1) (True):=⟨fun hp w hw=>(Yt w c (hc.h w hw)).mono fun e w' ⟨x,h1,h2,h3⟩=>⟨x,h1,h2,hw.call h3⟩⟩
theorem Yu(w:World)(f:cf)(k:Key)(bits:Int)(hf:Deep.bh (hp w) f):Calls Tryz.prog 27 #[.agg (bS f), .agg (cW k), .int .i64 bits] w fun e w'=>e= .returned (.tuple #[.agg (ax (u7 (bF f) k bits)), .int .i64 (u9 (bF f) k bits)])∧Mem w [] w':=by
 have CN:cC w f:=⟨hf⟩
 refine bf (args:=[_,_,_]) Tryz.func27 rfl Tryz.ntmps27 rfl ?_
 change Cw _ _ _ _ _ [(0, .agg (bS f)),(1, .agg (cW k)),(2, .int .i64 bits)] []
 refine Gc ?_
 refine cq rfl fun b3=> ?_
 refine cq rfl fun b4=> ?_
 refine bN fun b6=> ?_
 refine Gs ?_
 refine Gc ?_
 iterate 3 refine Gs ?_
 refine Gc ?_
 refine av rfl (fun h0=> ?_) (fun h0=> ?_)
 ·
  replace h0:=bz h0
  refine Gc ?_
  refine ah (sA rfl) ?_
  iterate 2 refine Gs ?_
  refine Gc ?_
  refine au (.inl rfl) (bo rfl (cj rfl) (aq rfl)) (fun w1 hw=> ?_)
  exact⟨(by rw[u7,u9,if_neg (by rw[h0];simp),if_neg (by rw[h0];simp)]),ai.mem hw⟩
 ·
  replace h0:=bz h0
  refine Gc ?_
  iterate 5 refine Gs ?_
  refine ah (aV (v:= .agg (ax (u4 f.table.xs k bits))) rfl rfl) ?_
  refine ah (aV (v:= .int .i64 (u5 f.table.xs k bits)) rfl rfl) ?_
  iterate 2 refine Gs ?_
  refine Gc ?_
  refine au (.inl rfl) (bo rfl (cj rfl) (aq rfl)) (fun w1 hw=> ?_)
  exact⟨(by rw[u7,u9,if_pos h0,if_pos h0];rfl),ai.mem hw⟩
instance aiC{w0:World}{L:List aj}{f:cf}{k:Key}{bits:Int}[hf:aW w0 L f]:cL Tryz.prog 27 w0 L [.agg (bS f), .agg (cW k), .int .i64 bits] (.tuple #[.agg (ax (u7 (bF f) k bits)), .int .i64 (u9 (bF f) k bits)]) (True):=⟨fun hp w hw=>Yu w f k bits (hf.h w hw)⟩
open Go.ay Go.Kb
open Go.RowKit
theorem MQ(v:bT)(w:World):(Instr.build 54 #[(0, .agg (bL v))]).run Tryz.prog w= .ok (.agg (bS ⟨v,⟨Sv.none,[]⟩⟩)) w:=by
 obtain⟨⟨a1,a2,⟨a3,a4⟩,a5,a6,⟨a7,a8⟩⟩,⟨a9,X3⟩,X4,X5⟩:=v
 unfold bS bL
 obtain⟨e3,b3,o3,l3,c3,p3⟩:=a3
 obtain⟨e7,b7,o7,l7,c7,p7⟩:=a7
 obtain⟨e9,b9,o9,l9,c9,p9⟩:=a9
 cases e3<;>cases e7<;>cases e9<;>kernel_rfl
theorem MR{w0 w:World}{L:List aj}{v:bT}(h:Mem w0 (fz v.ag::fz v.at_::L) w):Mem w0 (fz (⟨v,⟨Sv.none,[]⟩⟩:cf)::L) w:=
 B8 (f:=⟨v,⟨Sv.none,[]⟩⟩) ((va (a:=⟨Sv.none,[]⟩) (Mem.dI ax 19 h)).perm ((List.Perm.swap _ _ _).trans (List.Perm.cons _ (List.Perm.swap _ _ _))))
theorem Yv(w:World)(c:Cp)(hc:Deep.bh (hp w) c)(bc:dM c):Calls Tryz.prog 33 #[.agg (aE c)] w fun e w'=> ∃zz:cf,e= .returned (.tuple #[.agg (bS zz), .int .i64 ((nC (cv c)).2)])∧(bF zz=(nC (cv c)).1)∧Mem w [fz zz] w':=by
 have jQ:cC w c:=⟨hc⟩
 have kg:dM c:=bc
 refine bf (args:=[_]) Tryz.func33 rfl Tryz.ntmps33 rfl ?_
 change Cw _ _ _ _ _ [(0, .agg (aE c))] []
 refine Gc ?_
 refine cq rfl fun b1=> ?_
 refine bN fun b2=> ?_
 refine Gs ?_
 refine Gc ?_
 iterate 3 refine Gs ?_
 refine Gc ?_
 refine av rfl (fun h0=> ?_) (fun h0=> ?_)
 ·
  replace h0:=bz h0
  have hE:nC (cv c)=(⟨⟨cv c,[],0,0⟩,[]⟩,1):=by rw[nC,if_pos h0]
  refine Gc ?_
  refine Gs ?_
  refine br rfl (by assumption) fun vq Yw=> ?_
  refine ah (cU (v:= .agg (bL (⟨vq,⟨Sv.none,[]⟩,0,0⟩:bT))) rfl (zH vq)) ?_
  refine ah (cU (v:= .agg (bS (⟨(⟨vq,⟨Sv.none,[]⟩,0,0⟩:bT),⟨Sv.none,[]⟩⟩:cf))) rfl (MQ (⟨vq,⟨Sv.none,[]⟩,0,0⟩:bT))) ?_
  iterate 2 refine Gs ?_
  refine Gc ?_
  refine au (.inl rfl) (bo rfl (cj rfl) (aq rfl)) (fun w1 hw=> ?_)
  exact⟨(⟨(⟨vq,⟨Sv.none,[]⟩,0,0⟩:bT),⟨Sv.none,[]⟩⟩:cf),by rw[hE],by rw[hE];simp only[bF,vv,Yw];rfl,MR (v:=(⟨vq,⟨Sv.none,[]⟩,0,0⟩:bT)) (ai.mem (zI (ai.mem hw:Mem w [fz vq] _)))⟩
 ·
  replace h0:=bz h0
  have hE:nC (cv c)=(⟨(lE (cv c) (dS (cv c))).1,[]⟩,(lE (cv c) (dS (cv c))).2):=by rw[nC,if_neg h0]
  refine Gc ?_
  refine oO [3,7,8,2007,4003] [[],[],[],[],[3],[3],[3],[],[3,7],[3,7,8]] [0,1,2,3,4,5,6,7,8,9] [ar b1 (aE c) 25] [(7,jl Tryz.prog 29)] (by kernel_rfl) (fun _ hw=>ai.mem hw) (by kernel_rfl) (by kernel_rfl) ?_
  refine an rfl (fN rfl) ?_
  refine an rfl (fN rfl) ?_
  refine uD rfl (cM rfl trivial) ?_
  refine rI rfl rfl (by assumption) (fun e x w hw=>ai.mem hw) (Cert.one (i:=7) rfl rfl rfl iR (Cert.none rfl)) fun fL zE=>⟨fun _ hw=>ai.mem hw,?_⟩
  refine an rfl (aF rfl) ?_
  refine an rfl (aV (v:= .agg (bL (⟨fL.1,fL.2.1,fL.2.2.1,fL.2.2.2⟩:bT))) rfl rfl) ?_
  refine an rfl (aV (v:= .int .i64 ((lE (cv c) (dS (cv c))).2)) rfl rfl) ?_
  refine my (m:=jl Tryz.prog 29) rfl rfl iR (Cert.none rfl) fun b4=> ?_
  change Ln _ _ _ _ _ _ _ _ (cw _ _ (.pointer (some ⟨b4,0,none⟩))) (ar b4 (bL kN) 29::_) _
  refine dy rfl (mw rfl rfl ⟨fun _ hw=>ai.mem hw,?_⟩)
  refine an rfl (bn rfl) ?_
  refine Gc ?_
  refine Gs ?_
  refine ah (cU (v:= .agg (bS (⟨(⟨fL.1,fL.2.1,fL.2.2.1,fL.2.2.2⟩:bT),⟨Sv.none,[]⟩⟩:cf))) rfl (MQ (⟨fL.1,fL.2.1,fL.2.2.1,fL.2.2.2⟩:bT))) ?_
  iterate 3 refine Gs ?_
  refine Gc ?_
  refine au (.inl rfl) (bo rfl (cj rfl) (aq rfl)) (fun w1 hw=> ?_)
  exact⟨(⟨(⟨fL.1,fL.2.1,fL.2.2.1,fL.2.2.2⟩:bT),⟨Sv.none,[]⟩⟩:cf),by rw[hE],by rw[hE];simp only[bF,vv,zE],MR (v:=(⟨fL.1,fL.2.1,fL.2.2.1,fL.2.2.2⟩:bT)) (ai.mem hw)⟩
instance aiD{w0:World}{L:List aj}{c:Cp}[hc:aW w0 L c]:cr Tryz.prog 33 w0 L [.agg (aE c)] (cf) (fun zz=> .tuple #[.agg (bS zz), .int .i64 ((nC (cv c)).2)]) (fun zz=>fz zz::L) (fun zz=>bF zz=(nC (cv c)).1) (dM c):=⟨fun hp w hw=>(Yv w c (hc.h w hw) hp).mono fun e w' ⟨x,h1,h2,h3⟩=>⟨x,h1,h2,hw.call h3⟩⟩
theorem Yx{w0 w:World}{L:List aj}{f:cf}{a:Sl Rt}(h:Mem w0 (fz f::own ax 19 a.sv a.xs::L) w):Mem w0 (fz (⟨f.al,a⟩:cf)::L) w:=by
 have h2:=(va (a:=a) (h.perm (List.Perm.swap _ _ _))).perm (List.Perm.swap _ _ _)
 refine Mem.freeze (es:=[fz f,fz a]) (⟨f.al,a⟩:cf) ⟨(h2.sat (fz f) (by simp)).1,h2.sat (fz a) (by simp)⟩ (fun k hk=> ?_) h2
 rcases hk with hk|hk
 ·
  exact⟨fz f,by simp, .inl hk⟩
 ·
  exact⟨fz a,by simp,hk⟩
theorem Yy(w:World)(f:cf)(hf:Deep.bh (hp w) f)(bc:dM f.al.ag∧f.al.at_.xs.length≤1000000∧f.table.xs.length≤1000000):Calls Tryz.prog 75 #[.agg (bS f)] w fun e w'=> ∃zz:cf,e= .returned (.agg (bS zz))∧(bF zz=bF f)∧Mem w [fz zz] w':=by
 have CN:cC w f:=⟨hf⟩
 obtain⟨lf,ka,nD⟩:=bc
 refine bf (args:=[_]) Tryz.func75 rfl Tryz.ntmps75 rfl ?_
 change Cw _ _ _ _ _ [(0, .agg (bS f))] []
 refine Gc ?_
 refine cq rfl fun b1=> ?_
 refine bN fun b2=> ?_
 refine Gc ?_
 iterate 2 refine Gs ?_
 refine ah (jj rfl) ?_
 refine br rfl lf fun x6 LO=> ?_
 iterate 2 refine Gs ?_
 refine vS (cs':=bS ({f with al:=({f.al with ag:=x6}:bT)}:cf)) rfl rfl (by show 0+6≤10;decide) rfl ?_
 refine Gc ?_
 iterate 3 refine Gs ?_
 refine br rfl ka fun pt Gt=> ?_
 iterate 2 refine Gs ?_
 refine eO (cs':=bS ({f with al:=({f.al with ag:=x6,at_:=⟨pt,f.al.at_.xs⟩}:bT)}:cf)) rfl rfl (by show 6<10;decide) (by first|rfl|exact Sv.one _) rfl ?_
 refine Gc ?_
 iterate 2 refine Gs ?_
 refine br rfl nD fun fL zE=> ?_
 refine Gs ?_
 refine eO (cs':=bS (⟨({f.al with ag:=x6,at_:=⟨pt,f.al.at_.xs⟩}:bT),⟨fL,f.table.xs⟩⟩:cf)) rfl rfl (by show 9<10;decide) (by first|rfl|exact Sv.one _) rfl ?_
 refine Gc ?_
 iterate 2 refine Gs ?_
 refine Gc ?_
 refine au (.inl rfl) (aM rfl (cj rfl)) (fun w1 hw=> ?_)
 exact⟨(⟨({f.al with ag:=x6,at_:=⟨pt,f.al.at_.xs⟩}:bT),⟨fL,f.table.xs⟩⟩:cf),rfl,by simp only[bF,vv,LO],Lz (f:=(⟨({f.al with ag:=x6,at_:=⟨pt,f.al.at_.xs⟩}:bT),⟨fL,f.table.xs⟩⟩:cf)) (ai.mem hw)⟩
instance aiE{w0:World}{L:List aj}{f:cf}[hf:aW w0 L f]:cr Tryz.prog 75 w0 L [.agg (bS f)] (cf) (fun zz=> .agg (bS zz)) (fun zz=>fz zz::L) (fun zz=>bF zz=bF f) (dM f.al.ag∧f.al.at_.xs.length≤1000000∧f.table.xs.length≤1000000):=⟨fun hp w hw=>(Yy w f (hf.h w hw) hp).mono fun e w' ⟨x,h1,h2,h3⟩=>⟨x,h1,h2,hw.call h3⟩⟩
end Go.Proofs.YtaipiecplldinaaGreat
namespace Go.Kb
open Go.ay
theorem MS{p q:cR}(h:dJ p q=true):cY p=true∧cY q=true:=by
 simp only[dJ,Bool.and_eq_true]at h
 exact⟨h.1.1,h.1.2⟩
theorem Yz{p q r:cR}(h:dJ p q=true)(h':dJ q r=true):dJ p r=true:=by
 obtain⟨hp,hq⟩:=MS h
 obtain⟨_,hr⟩:=MS h'
 rw[lA hp hq]at h
 rw[lA hq hr]at h'
 rw[lA hp hr]
 omega
def tok(ps:List cR):Prop:=ps.length≤256∧(∀p∈ps,cY p=true)∧ps.Pairwise fun p q=>dJ p q=true
theorem MT(xs:List Rt): ∀n,n≤xs.length→(pM xs n=true↔(∀p∈(xs.take n).map (·.p),cY p=true)∧((xs.take n).map (·.p)).Pairwise fun p q=>dJ p q=true)
 |0,_=>by simp[IS]
 |n+1,h=>by
  obtain⟨r,hr⟩:=get_some (xs:=xs) (i:=n) (by omega)
  have e:xs.take (n+1)=xs.take n++[r]:=by rw[List.take_add_one,hr];rfl
  rw[D2,Bool.and_eq_true,MT xs n (by omega),e,List.map_append,List.pairwise_append]
  simp only[List.map_cons,List.map_nil,List.mem_append,List.mem_singleton,List.pairwise_cons,List.not_mem_nil,false_implies,implies_true,List.Pairwise.nil,and_self,true_and,and_true]
  cases n with
  |zero=>rw[D3 hr];simp
  |succ m=>
   obtain⟨q,hq⟩:=get_some (xs:=xs) (i:=m) (by omega)
   rw[AR hr hq,Bool.and_eq_true]
   have e2:xs.take (m+1)=xs.take m++[q]:=by rw[List.take_add_one,hq];rfl
   constructor
   ·
    rintro⟨⟨h1,h2⟩,h3,h4⟩
    refine⟨fun p hp=>hp.elim (h1 p) (fun e=>e▸h3),h2,fun p hp b hb=> ?_⟩
    subst hb
    rw[e2,List.map_append]at hp h2
    rcases List.mem_append.1 hp with hp|hp
    ·
     have:=(List.pairwise_append.1 h2).2.2 p hp q.p (by simp)
     exact Yz this h4
    ·
     have:p=q.p:=by simpa using hp
     rw[this];exact h4
   ·
    rintro⟨h1,h2,h3⟩
    refine⟨⟨fun p hp=>h1 p (.inl hp),h2⟩,h1 _ (.inr rfl),h3 q.p ?_ _ rfl⟩
    rw[e2];simp
theorem YA(xs:List Rt):dt xs=true↔tok (xs.map (·.p)):=by
 rw[dt,Bool.and_eq_true,MT xs _ (Nat.le_refl _),List.take_length,decide_eq_true_iff]
 simp[tok]
theorem YB{xs:List Rt}(h:dt xs=true): ∀r∈xs,cY r.p=true:=fun r hr=>((YA xs).1 h).2.1 r.p (List.mem_map_of_mem hr)
theorem YC{r:Rt}(h:cY r.p=true):rd (eG r)=some r:=by
 obtain⟨h1,h2,h3,-⟩:=(AP r.p).1 h
 have e0:(eG r).getD 0 0=if r.p.bits=128 then 1 else 0:=by simp[List.getD,JU]
 have e1:(eG r).getD 1 0=cP r.p.len:=by simp[List.getD,JV]
 have CK:(eG r).getD 18 0=b8 (r.dG.toNat/256):=by simp[List.getD,JX]
 have MU:(eG r).getD 19 0=b8 r.dG.toNat:=by simp[List.getD,JY]
 have ok:nB (eG r)=true:=by
  rw[nB,e0];split<;>decide
 rw[K2,if_pos ok]
 congr 1
 obtain⟨⟨b,l,k⟩,dG⟩:=r
 simp only at h1 h2 h3 e0 e1 CK MU
 have ek:(nV fun i=>((eG ⟨⟨b,l,k⟩,dG⟩).getD (2+i) 0).toNat)=k:=by
  refine yy fun i hi=> ?_
  rw[yz _ _ hi]
  simp only[List.getD,JW _ i hi,Option.getD_some,pI]
  have:=nU k i
  omega
 have el:((cP l).toNat:Int)=l:=by
  obtain⟨n,rfl⟩: ∃n:Nat,l=n:=⟨l.toNat,by omega⟩
  rw[So,pI];omega
 have eh:qA (b8 (dG.toNat/256)) (b8 dG.toNat)=dG:=by
  apply UInt16.toNat_inj.1
  have:=dG.toNat_lt
  rw[DY,pI,pI];omega
 show(⟨⟨if(eG ⟨⟨b,l,k⟩,dG⟩).getD 0 0=1 then 128 else 32,((eG ⟨⟨b,l,k⟩,dG⟩).getD 1 0).toNat,nV fun i=>((eG ⟨⟨b,l,k⟩,dG⟩).getD (2+i) 0).toNat⟩,qA ((eG ⟨⟨b,l,k⟩,dG⟩).getD 18 0) ((eG ⟨⟨b,l,k⟩,dG⟩).getD 19 0)⟩:Rt)=_
 rw[ek,e0,e1,CK,MU,el,eh]
 congr 2
 rcases h1 with rfl|rfl<;>simp
theorem MW: ∀{l:List Rt},(∀r∈l,cY r.p=true)→lb (l.flatMap eG)=some l
 |[],_=>KW
 |r::l,h=>by
  rw[List.flatMap_cons,Fu (by rw[List.length_append,n9];omega),List.take_left' (n9 r),List.drop_left' (n9 r),YC (h r (by simp)),MW fun r hr=>h r (by simp[hr])]
  rfl
theorem MX{t:List Rt}(n:Nat)(h: ∀r∈t,cY r.p=true): ∀k,gn (la t k n)=some (t.take (k*n))
 |0=>by simp[la,gn]
 |k+1=>by
  rw[Tq,BX,MX n h k,Option.bind_some,gn,gn,qb,MW fun r hr=>h r (List.mem_of_mem_drop (List.mem_of_mem_take hr))]
  simp only[Option.map_some,Option.bind_some,List.append_nil,Option.some.injEq]
  rw[Nat.add_mul,Nat.one_mul,List.take_add]
theorem MY{t:List Rt}{ids room:Int}(h:iY t ids room=0):iZ (jN t ids room)=t∧jO (jN t ids room)=0:=by
 obtain⟨h1,h2,h3⟩: ¬iB ids room=0∧dt t=true∧ ¬iB ids room<t.length:=by
  unfold iY at h
  split at h
  ·
   cases h
  ·
   rename_i hn
   split at h
   ·
    cases h
   ·
    rename_i hm
    exact⟨fun e=>hn (.inr e),by cases hr:dt t;exact absurd (.inl hr) hn;rfl,hm⟩
 have hm:=BW h1
 obtain⟨_,hV⟩:=Fx h1 h2 h3
 have ow:ids*(room/20)=((ids.toNat*(room/20).toNat:Nat):Int):=by
  rw[Int.natCast_mul,Int.toNat_of_nonneg (by omega),Int.toNat_of_nonneg (by omega)]
 have hu:gn (jN t ids room)=some t:=by
  rw[hV,MX _ (YB h2),List.take_of_length_le (by omega)]
 exact Fw hu h2
theorem MZ{t:List Rt}{ids room:Int}(h:iY t ids room=0): ¬iB ids room=0∧dt t=true∧ ¬iB ids room<t.length∧jN t ids room=la t ids.toNat (room/20).toNat:=by
 unfold iY at h
 split at h
 ·
  cases h
 ·
  rename_i hn
  split at h
  ·
   cases h
  ·
   rename_i hm
   have h1: ¬iB ids room=0:=fun e=>hn (.inr e)
   have h2:dt t=true:=by cases hr:dt t;exact absurd (.inl hr) hn;rfl
   exact⟨h1,h2,hm,(Fx h1 h2 hm).2⟩
theorem YD{t:List Rt}{ids room:Int}(h: ¬iY t ids room=0):jN t ids room=[]:=by rw[jN,if_neg h]
theorem CP{t:List Rt}{ids room:Int}(h:iY t ids room=0):((jN t ids room).length:Int)=ids∧1≤ids∧ids≤64:=by
 obtain⟨h1,_,_,hV⟩:=MZ h
 have:=BW h1
 rw[hV,th];omega
theorem YE{t:List Rt}{ids room:Int}:(jN t ids room).length≤64∧ ∀x∈jN t ids room,x.length≤240:=by
 by_cases h:iY t ids room=0
 ·
  have h2:=CP h
  obtain⟨h1,_,_,hV⟩:=MZ h
  have hm:=BW h1
  refine⟨by omega,fun x hx=> ?_⟩
  rw[hV]at hx
  obtain⟨j,_,rfl⟩:=List.mem_map.1 hx
  have:=KV t (room/20).toNat j
  omega
 ·
  rw[YD h];simp
theorem YF(a:List (List UInt8)):eJ a a=[]:=by
 rw[eJ,lX,List.filterMap_eq_nil_iff]
 intro i _
 rw[qV,if_pos rfl]
theorem YG{a b:List (List UInt8)}(hl:a.length=b.length):eJ a b=[]↔a=b:=by
 refine⟨fun h=> ?_,fun h=>by rw[h,YF]⟩
 rw[eJ,lX,List.filterMap_eq_nil_iff,hl,Nat.max_self]at h
 refine List.ext_getElem? fun i=> ?_
 by_cases hi:i<b.length
 ·
  have:=h i (List.mem_range.2 hi)
  unfold qV at this
  split at this
  ·
   rename_i he
   rw[List.getElem?_eq_getElem (by omega),List.getElem?_eq_getElem hi]
   simpa[List.getD,hi,show i<a.length by omega]using he
  ·
   cases this
 ·
  rw[List.getElem?_eq_none (by omega),List.getElem?_eq_none (by omega)]
theorem M0{a b:List (List UInt8)}{n:Nat}{p:Int×List UInt8}(h:p∈lX a b n): ∃i:Nat,i<n∧p=((i:Int),b.getD i [])∧ ¬a.getD i []=b.getD i []:=by
 rw[lX,List.mem_filterMap]at h
 obtain⟨i,hi,he⟩:=h
 unfold qV at he
 split at he
 ·
  cases he
 ·
  rename_i hn
  exact⟨i,List.mem_range.1 hi,(Option.some.inj he).symm,hn⟩
theorem GU(a b:List (List UInt8)): ∀n,(lX a b n).Pairwise fun p q=>p.1<q.1
 |0=>List.Pairwise.nil
 |n+1=>by
  by_cases h:a.getD n []=b.getD n []
  ·
   rw[K0 h];exact GU a b n
  ·
   rw[K1 h,List.pairwise_append]
   refine⟨GU a b n,List.pairwise_singleton _ _,fun p hp q hq=> ?_⟩
   obtain⟨i,hi,rfl,_⟩:=M0 hp
   obtain rfl:=List.mem_singleton.1 hq
   simp only;omega
end Go.Kb
namespace Go.Proofs.YtaipiecplldinaaGreat
open Go.ay Go.Kb
open Go.RowKit
theorem YH(w:World)(f:cf)(l:Sv)(ls:List Ch)(hf:Deep.bh (hp w) f)(hl:bV fQ 20 (hp w) l ls)(bc:dM f.al.ag∧f.al.at_.xs.length≤1000000∧f.table.xs.length≤1000000):Calls Tryz.prog 35 #[.agg (bS f),l.val] w fun e w'=> ∃zz:cf,e= .returned (.tuple #[.agg (bS zz), .int .i64 ((cJ (bF f) ls).2)])∧(bF zz=(cJ (bF f) ls).1)∧Mem w [fz zz] w':=by
 have CN:cC w f:=⟨hf⟩
 have ov:Gv w l fQ 20 ls:=⟨hl⟩
 have vG:=bc
 obtain⟨lf,ka,nD⟩:=bc
 refine bf (args:=[_,_]) Tryz.func35 rfl Tryz.ntmps35 rfl ?_
 change Cw _ _ _ _ _ [(0, .agg (bS f)),(1,l.val)] []
 refine Gc ?_
 refine cq rfl fun b2=> ?_
 refine bN fun b4=> ?_
 refine Gs ?_
 refine Gc ?_
 refine Gs ?_
 refine br rfl trivial fun GV YI=> ?_
 refine Gs ?_
 refine ah (aV (v:=GV.sv.val) rfl rfl) ?_
 refine ah (aV (v:= .bool (gp (bF f))) rfl rfl) ?_
 iterate 2 refine Gs ?_
 refine Gc ?_
 iterate 2 refine Gs ?_
 refine Gc ?_
 refine av rfl (fun h0=> ?_) (fun h0=> ?_)
 ·
  replace h0:=bz h0
  have hE:(cJ (bF f) ls)=(bF f,1):=T7 h0
  refine Gc ?_
  refine Gs ?_
  refine br rfl vG fun jc Ge=> ?_
  iterate 2 refine Gs ?_
  refine Gc ?_
  refine au (.inl rfl) (bo rfl (cj rfl) (aq rfl)) (fun w1 hw=> ?_)
  exact⟨jc,by rw[hE],by rw[hE];exact Ge,ai.mem hw⟩
 ·
  replace h0:=bz h0
  have vh:lx GV=fe (bF f):=YI h0
  refine Gc ?_
  iterate 3 refine Gs ?_
  refine br rfl nD fun kl qf=> ?_
  refine Gs ?_
  refine ah (aV (v:=kl.val) rfl rfl) ?_
  refine ah (aV (v:= .int .i64 (dW f.table.xs ls)) rfl rfl) ?_
  iterate 2 refine Gs ?_
  refine Gc ?_
  iterate 2 refine Gs ?_
  refine Gc ?_
  refine av rfl (fun h1=> ?_) (fun h1=> ?_)
  ·
   replace h1:=bz h1
   have hE:(cJ (bF f) ls)=(bF f,dW f.table.xs ls):=LC h0 h1
   refine Gc ?_
   refine Gs ?_
   refine br rfl vG fun az se=> ?_
   iterate 3 refine Gs ?_
   refine Gc ?_
   refine au (.inl rfl) (bo rfl (cj rfl) (aq rfl)) (fun w1 hw=> ?_)
   exact⟨az,by rw[hE],by rw[hE];exact se,ai.mem hw⟩
  ·
   replace h1:=bz h1
   refine Gc ?_
   refine jm [10] [[],[],[],[],[],[],[],[],[],[],[],[10],[10],[10],[10],[10]] [0,1,2,3,4,5,6,7,8,9,10,11,12,13,14,15] _ (fun _ hw=>hw) (by kernel_rfl) (by kernel_rfl) ?_
   refine an rfl (aF rfl) ?_
   refine an rfl (aH (o':=0) rfl rfl) ?_
   refine an rfl (aH (o':=0) rfl rfl) ?_
   refine an rfl (jj rfl) ?_
   refine uD rfl (cM rfl trivial) ?_
   refine an rfl (aH (o':=0) rfl rfl) ?_
   refine an rfl (aH (o':=0) rfl rfl) ?_
   refine an rfl (aH (o':=1) rfl rfl) ?_
   refine an rfl (bI rfl) ?_
   refine uD rfl (cM rfl trivial) ?_
   refine dy rfl (nr rfl trivial fun qi MO=>⟨fun _ hw=>ai.mem hw,?_⟩)
   refine an rfl (aF rfl) ?_
   refine an rfl (aV (v:=qi.sv.val) rfl rfl) ?_
   refine an rfl (aV (v:= .int .i64 (iY (cT f.table.xs ls) (dS (cv f.al.ag)) (dR f.al.ag.size))) rfl rfl) ?_
   refine an rfl (bn rfl) ?_
   refine an rfl (bn rfl) ?_
   refine Gc ?_
   iterate 2 refine Gs ?_
   refine Gc ?_
   refine av rfl (fun h2=> ?_) (fun h2=> ?_)
   ·
    replace h2:=bz h2
    have hE:(cJ (bF f) ls)=(bF f,(iY (cT f.table.xs ls) (dS (cv f.al.ag)) (dR f.al.ag.size))):=LD h0 h1 h2
    refine Gc ?_
    refine Gs ?_
    refine br rfl vG fun YJ YK=> ?_
    iterate 3 refine Gs ?_
    refine Gc ?_
    refine au (.inl rfl) (bo rfl (cj rfl) (aq rfl)) (fun w1 hw=> ?_)
    exact⟨YJ,by rw[hE],by rw[hE];exact YK,ai.mem hw⟩
   ·
    replace h2:=bz h2
    have oX:lx qi=fD (bF f) ls:=MO
    have xd:(fe (bF f)).length≤64:=T6 _
    have GL:GV.xs.length≤1000000:=by rw[←vh,ur]at xd;omega
    have CG:(fD (bF f) ls).length≤64∧ ∀x∈fD (bF f) ls,x.length≤240:=YE
    have YL:qi.xs.length≤1000000:=by have:=CG.1;rw[←oX,ur]at this;omega
    have YM: ∀x∈qi.xs,x.xs.length≤140737488355328:=fun x hx=>by
     have hm:x.xs∈lx qi:=List.mem_map_of_mem (f:=fun x:Sl UInt8=>x.xs) hx
     rw[oX]at hm
     have:=CG.2 _ hm;omega
    refine Gc ?_
    iterate 2 refine Gs ?_
    refine br rfl ⟨GL,YL,YM⟩ fun pv M1=> ?_
    refine Gs ?_
    refine Gc ?_
    iterate 3 refine Gs ?_
    refine Gc ?_
    refine av rfl (fun h3=> ?_) (fun h3=> ?_)
    ·
     replace h3:=bz h3
     have zO:eJ (fe (bF f)) (fD (bF f) ls)=[]:=by rw[←vh,←oX,←M1,ux,List.length_eq_zero_iff.1 (by omega:pv.xs.length=0)];rfl
     have hE:(cJ (bF f) ls)=(⟨(bF f).al,(cT f.table.xs ls)⟩,0):=LF h0 h1 h2 zO
     refine Gc ?_
     refine Gs ?_
     refine br rfl vG fun CQ YN=> ?_
     refine Gs ?_
     refine Gc ?_
     iterate 2 refine Gs ?_
     refine eO (cs':=bS (⟨CQ.al,⟨kl,(cT f.table.xs ls)⟩⟩:cf)) rfl rfl (by show 9<10;decide) (by first|rfl|exact Sv.one _) rfl ?_
     refine Gc ?_
     iterate 3 refine Gs ?_
     refine Gc ?_
     refine au (.inl rfl) (bo rfl (cj rfl) (aq rfl)) (fun w1 hw=> ?_)
     exact⟨(⟨CQ.al,⟨kl,(cT f.table.xs ls)⟩⟩:cf),by rw[hE],by rw[hE,←YN];rfl,Yx (f:=CQ) (ai.mem hw:Mem w [fz CQ,own ax 19 kl (cT f.table.xs ls)] _)⟩
    ·
     replace h3:=bz h3
     have zO:eJ (fe (bF f)) (fD (bF f) ls)=pv.xs.map bq:=by rw[←vh,←oX,←M1];rfl
     have YO: ¬eJ (fe (bF f)) (fD (bF f) ls)=[]:=by rw[zO];intro h;have:=congrArg List.length h;rw[List.length_map,List.length_nil]at this;omega
     have YP:pv.xs.length≤1000000:=by have:=congrArg List.length zO;have hq:=BZ (fe (bF f)) (fD (bF f) ls) (max (fe (bF f)).length (fD (bF f) ls).length);rw[List.length_map]at this;have h7:=CG.1;rw[eJ]at this;omega
     have sf:=FG h0 h1 h2 YO
     rw[zO]at sf
     refine Gc ?_
     refine Gs ?_
     refine ah (jj rfl) ?_
     refine Gs ?_
     refine br rfl ⟨lf,ka,YP⟩ fun eE Gd=> ?_
     refine Gs ?_
     refine ah (aV (v:= .agg (bL (⟨eE.1,eE.2.1,eE.2.2.1,eE.2.2.2⟩:bT))) rfl rfl) ?_
     refine ah (aV (v:= .int .i64 ((fJ (vv f.al) (pv.xs.map bq)).2)) rfl rfl) ?_
     refine bN fun kh=> ?_
     iterate 2 refine Gs ?_
     refine Gc ?_
     iterate 2 refine Gs ?_
     refine Gc ?_
     refine av rfl (fun h4=> ?_) (fun h4=> ?_)
     ·
      replace h4:=bz h4
      have hE:(cJ (bF f) ls)=(⟨(fJ (vv f.al) (pv.xs.map bq)).1,f.table.xs⟩,(fJ (vv f.al) (pv.xs.map bq)).2):=sf.trans (congrArg (fun z=>((⟨(fJ (vv f.al) (pv.xs.map bq)).1,z⟩:FV),(fJ (vv f.al) (pv.xs.map bq)).2)) (if_pos h4))
      refine Gi ?_
      iterate 2 refine Gs ?_
      refine br rfl nD fun xE aiF=> ?_
      refine Gs ?_
      refine Gc ?_
      iterate 2 refine Gs ?_
      refine ah (cU (v:= .agg (bS (⟨(⟨eE.1,eE.2.1,eE.2.2.1,eE.2.2.2⟩:bT),⟨xE,f.table.xs⟩⟩:cf))) rfl (GQ (⟨eE.1,eE.2.1,eE.2.2.1,eE.2.2.2⟩:bT) ⟨xE,f.table.xs⟩)) ?_
      iterate 3 refine Gs ?_
      refine Gc ?_
      refine au (.inl rfl) (bo rfl (cj rfl) (aq rfl)) (fun w1 hw=> ?_)
      exact⟨(⟨(⟨eE.1,eE.2.1,eE.2.2.1,eE.2.2.2⟩:bT),⟨xE,f.table.xs⟩⟩:cf),by rw[hE],by rw[hE];simp only[bF,vv,Gd],B8 (f:=(⟨(⟨eE.1,eE.2.1,eE.2.2.1,eE.2.2.2⟩:bT),⟨xE,f.table.xs⟩⟩:cf)) (ai.mem (va (a:=(⟨xE,f.table.xs⟩:Sl Rt)) (ai.mem hw:Mem w [own ax 19 xE f.table.xs,fz eE.1,fz eE.2.1] _)))⟩
     ·
      replace h4:=bz h4
      have hE:(cJ (bF f) ls)=(⟨(fJ (vv f.al) (pv.xs.map bq)).1,(cT f.table.xs ls)⟩,(fJ (vv f.al) (pv.xs.map bq)).2):=sf.trans (congrArg (fun z=>((⟨(fJ (vv f.al) (pv.xs.map bq)).1,z⟩:FV),(fJ (vv f.al) (pv.xs.map bq)).2)) (if_neg (fun h=>h h4)))
      refine Gc ?_
      iterate 2 refine Gs ?_
      refine ah (cU (v:= .agg (bS (⟨(⟨eE.1,eE.2.1,eE.2.2.1,eE.2.2.2⟩:bT),⟨kl,(cT f.table.xs ls)⟩⟩:cf))) rfl (GQ (⟨eE.1,eE.2.1,eE.2.2.1,eE.2.2.2⟩:bT) ⟨kl,(cT f.table.xs ls)⟩)) ?_
      iterate 3 refine Gs ?_
      refine Gc ?_
      refine au (.inl rfl) (bo rfl (cj rfl) (aq rfl)) (fun w1 hw=> ?_)
      exact⟨(⟨(⟨eE.1,eE.2.1,eE.2.2.1,eE.2.2.2⟩:bT),⟨kl,(cT f.table.xs ls)⟩⟩:cf),by rw[hE],by rw[hE];simp only[bF,vv,Gd],B8 (f:=(⟨(⟨eE.1,eE.2.1,eE.2.2.1,eE.2.2.2⟩:bT),⟨kl,(cT f.table.xs ls)⟩⟩:cf)) (ai.mem (va (a:=(⟨kl,(cT f.table.xs ls)⟩:Sl Rt)) (ai.mem hw:Mem w [own ax 19 kl (cT f.table.xs ls),fz eE.1,fz eE.2.1] _)))⟩
instance aiG{w0:World}{L:List aj}{f:cf}{l:Sv}{ls:List Ch}[hf:aW w0 L f][hl:c6 w0 L fQ 20 l ls]:cr Tryz.prog 35 w0 L [.agg (bS f),l.val] (cf) (fun zz=> .tuple #[.agg (bS zz), .int .i64 ((cJ (bF f) ls).2)]) (fun zz=>fz zz::L) (fun zz=>bF zz=(cJ (bF f) ls).1) (dM f.al.ag∧f.al.at_.xs.length≤1000000∧f.table.xs.length≤1000000):=⟨fun hp w hw=>(YH w f l ls (hf.h w hw) (hl.h w hw) hp).mono fun e w' ⟨x,h1,h2,h3⟩=>⟨x,h1,h2,hw.call h3⟩⟩
open Go.ay Go.Kb
open Go.RowKit
open Go.ay Go.Kb
open Go.RowKit
open Go.ay Go.Kb
open Go.RowKit
theorem aiH(w:World)(c:Cp)(hc:Deep.bh (hp w) c):Calls Tryz.prog 93 #[.agg (aE c)] w fun e w'=>e= .returned (.bool (aS (cv c)))∧Mem w [] w':=by
 have jQ:cC w c:=⟨hc⟩
 have du:=gg c.blocks.xs
 have bM:aS (cv c)=true↔oP c.blocks.xs.length c.ae c.size=true∧0≤c.ops∧c.ops≤cK∧c.aX.xs.length≤64∧ ∀b∈gy c.blocks.xs,lQ c.ae c.size b=true:=by rw[eC];simp only[cv,du]
 have mN:cK=1099511627776:=rfl
 refine bf (args:=[_]) Tryz.func93 rfl Tryz.ntmps93 rfl ?_
 change Cw _ _ _ _ _ [(0, .agg (aE c))] []
 refine Gc ?_
 refine cq rfl fun b1=> ?_
 refine Gs ?_
 refine Gc ?_
 iterate 4 refine Gs ?_
 iterate 3 refine Gg ?_
 iterate 2 refine Gs ?_
 iterate 3 refine Gg ?_
 iterate 2 refine Gs ?_
 iterate 3 refine Gg ?_
 iterate 2 refine Gs ?_
 iterate 4 refine Gg ?_
 iterate 2 refine Gs ?_
 iterate 4 refine Gg ?_
 iterate 2 refine Gs ?_
 iterate 3 refine Gg ?_
 iterate 2 refine Gs ?_
 iterate 3 refine Gg ?_
 iterate 2 refine Gs ?_
 iterate 4 refine Gg ?_
 refine Gs ?_
 refine Gc ?_
 refine av rfl (fun h0=> ?_) (fun h0=> ?_)
 ·
  replace h0:=bz h0
  have hz:aS (cv c)=false:=by
   cases hk:aS (cv c)with
   |false=>rfl
   |true=>
    have g:=bM.1 hk
    have g2:=jI.1 g.1
    omega
  refine Gc ?_
  refine Gs ?_
  refine Gc ?_
  refine au (.inl rfl) (aM rfl (aq rfl)) (fun w1 hw=> ?_)
  exact⟨congrArg (fun b=>Ending.returned (Value.bool b)) (hz.symm),ai.mem hw⟩
 ·
  replace h0:=bz h0
  have g0:oP c.blocks.xs.length c.ae c.size=true∧0≤c.ops∧c.ops≤cK∧c.aX.xs.length≤64:=⟨jI.2 ⟨by omega,by omega,by omega,by omega,by omega,by omega⟩,by omega,by omega,by omega⟩
  have gs:=jI.1 g0.1
  refine Gc ?_
  refine Gs ?_
  refine Gc ?_
  refine cg (X:=Nat) (fun zz=>[(3, .int .i64 (zz:Nat)),(1, .pointer (some ⟨b1,0,none⟩))]) (fun zz=>[ar b1 (aE c) 25]) (fun zz=>zz≤c.blocks.xs.length∧ ∀j b,j<zz→(gy c.blocks.xs)[j]? =Option.some b→lQ c.ae c.size b=true) (fun zz=>c.blocks.xs.length -zz) 0 ⟨Nat.zero_le _,fun j b hj=>by first|omega|(simp only[];omega)⟩ (Sub.cons rfl (Sub.cons rfl (Sub.nil _))) (fun w hw=>ai.mem hw) ?_
  rintro i ⟨bk,aG⟩
  refine Gc ?_
  iterate 5 refine Gs ?_
  refine Gc ?_
  refine av rfl (fun h1=> ?_) (fun h1=> ?_)
  ·
   replace h1:=bz h1
   obtain⟨x,hx⟩:=get_some (xs:=c.blocks.xs) (i:=i) (by omega)
   have Cl:Mb x c.blocks:=⟨List.mem_of_getElem? hx⟩
   refine Gc ?_
   iterate 3 refine Gs ?_
   refine ah (bl rfl rfl i rfl (by omega)) ?_
   refine ah (hH rfl i hx rfl) ?_
   have aiI:Mb x c.blocks:=⟨List.mem_of_getElem? hx⟩
   refine bN fun b4=> ?_
   refine Gs ?_
   refine Gc ?_
   iterate 7 refine Gs ?_
   iterate 3 refine Gg ?_
   iterate 2 refine Gs ?_
   iterate 5 refine Gg ?_
   iterate 2 refine Gs ?_
   iterate 3 refine Gg ?_
   iterate 2 refine Gs ?_
   iterate 3 refine Gg ?_
   refine Gs ?_
   refine Gc ?_
   refine av rfl (fun h2=> ?_) (fun h2=> ?_)
   ·
    replace h2:=bz h2
    have hz:aS (cv c)=false:=by
     cases hk:aS (cv c)with
     |false=>rfl
     |true=>
      have g:=eA.1 ((bM.1 hk).2.2.2.2 (bv x) (List.mem_of_getElem? (kx hx)))
      simp only[bv,jo]at g
      omega
    refine Gc ?_
    refine Gs ?_
    refine Gc ?_
    refine au (.inl rfl) (aM rfl (aq rfl)) (fun w1 hw=> ?_)
    exact⟨congrArg (fun b=>Ending.returned (Value.bool b)) (hz.symm),ai.mem hw⟩
   ·
    replace h2:=bz h2
    refine Gc ?_
    refine Gs ?_
    refine Gc ?_
    refine cg (X:=Nat) (fun zz=>[(5, .int .i64 (zz:Nat)),(1, .pointer (some ⟨b1,0,none⟩)),(3, .int .i64 (i:Nat)),(4, .pointer (some ⟨b4,0,none⟩))]) (fun zz=>[ar b4 (bK x) 48,ar b1 (aE c) 25]) (fun zz=>zz≤x.ae.xs.length∧ ∀k y,k<zz→(bv x).ae[k]? =Option.some y→(y.length:Int)=c.size) (fun zz=>x.ae.xs.length -zz) 0 ⟨Nat.zero_le _,fun k y hk=>by first|omega|(simp only[];omega)⟩ (Sub.cons rfl (Sub.cons rfl (Sub.cons rfl (Sub.cons rfl (Sub.nil _))))) (fun w hw=>ai.mem hw) ?_
    rintro j ⟨iC,dF⟩
    refine Gc ?_
    iterate 5 refine Gs ?_
    refine Gc ?_
    refine av rfl (fun h3=> ?_) (fun h3=> ?_)
    ·
     replace h3:=bz h3
     obtain⟨y,hy⟩:=get_some (xs:=x.ae.xs) (i:=j) (by omega)
     have xf:Mb y x.ae:=⟨List.mem_of_getElem? hy⟩
     refine Gc ?_
     refine iF (by kernel_rfl) (by kernel_rfl) ?_
     iterate 3 refine Gq ?_
     refine bm (bl rfl rfl j rfl (by omega)) ?_
     refine bm (bO (j:=0) rfl j hy rfl (by decide)) ?_
     have aiJ:Mb y _:=⟨List.mem_of_getElem? hy⟩
     iterate 4 refine Gq ?_
     refine Gc ?_
     refine av rfl (fun h4=> ?_) (fun h4=> ?_)
     ·
      replace h4:=bz h4
      have hz:aS (cv c)=false:=by
       cases hk:aS (cv c)with
       |false=>rfl
       |true=>
        have g:=(eA.1 ((bM.1 hk).2.2.2.2 (bv x) (List.mem_of_getElem? (kx hx)))).2.2.2.2.2 y.xs (List.mem_of_getElem? (kL hy))
        omega
      refine Gc ?_
      refine Gs ?_
      refine Gc ?_
      refine au (.inl rfl) (aM rfl (aq rfl)) (fun w1 hw=> ?_)
      exact⟨congrArg (fun b=>Ending.returned (Value.bool b)) (hz.symm),ai.mem hw⟩
     ·
      replace h4:=bz h4
      refine Gc ?_
      iterate 3 refine Gs ?_
      refine Gi ?_
      exact bD (x:=(j)) (j+1) ⟨by first|omega|(simp only[];omega),fun k z hk hz=>if e:k=j then(by subst e;rw[show(bv x).ae=aJ x.ae.xs from rfl,kL hy]at hz;cases hz;omega)else dF k z (by first|omega|(simp only[];omega)) hz⟩ (by first|omega|(simp only[];omega)) (Sub.cons rfl (Sub.cons rfl (Sub.cons rfl (Sub.cons rfl (Sub.nil _))))) (fun w hw=>ai.mem hw)
    ·
     replace h3:=bz h3
     have qO:lQ c.ae c.size (bv x)=true:=eA.2 ⟨by simp only[bv,jo];omega,by simp only[bv];omega,by simp only[bv];omega,by simp only[bv];omega,by simp only[bv];omega,fun y hy=>by
      obtain⟨k,hk⟩:=List.getElem?_of_mem hy
      exact dF k y (by have h:=(List.getElem?_eq_some_iff.1 hk).1;simp only[bv,jo]at h;omega) hk⟩
     refine Gc ?_
     iterate 3 refine Gs ?_
     refine Gi ?_
     exact bD (x:=(i)) (i+1) ⟨by first|omega|(simp only[];omega),fun j b hj hb=>if e:j=i then(by subst e;rw[kx hx]at hb;cases hb;exact qO)else aG j b (by first|omega|(simp only[];omega)) hb⟩ (by first|omega|(simp only[];omega)) (Sub.cons rfl (Sub.cons rfl (Sub.nil _))) (fun w hw=>ai.mem hw)
  ·
   replace h1:=bz h1
   obtain rfl:i=c.blocks.xs.length:=by omega
   have hz:aS (cv c)=true:=bM.2 ⟨g0.1,g0.2.1,g0.2.2.1,g0.2.2.2,fun b hb=>by
    obtain⟨j,hj⟩:=List.getElem?_of_mem hb
    exact aG j b (by have:=(List.getElem?_eq_some_iff.1 hj).1;omega) hj⟩
   refine Gc ?_
   refine Gs ?_
   refine Gc ?_
   refine au (.inl rfl) (aM rfl (aq rfl)) (fun w1 hw=> ?_)
   exact⟨congrArg (fun b=>Ending.returned (Value.bool b)) (hz.symm),ai.mem hw⟩
theorem YQ(w:World)(a:Bk)(d:Bk)(ha:Deep.bh (hp w) a)(hd:Deep.bh (hp w) d):Calls Tryz.prog 38 #[.agg (bK a), .agg (bK d)] w fun e w'=>e= .returned (.bool (decide (bv a=bv d)))∧Mem w [] w':=by
 have Cf:cC w a:=⟨ha⟩
 have U0:cC w d:=⟨hd⟩
 have jn:=ha.1.bd
 have hla:=jo a.ae.xs
 have yS:=jo d.ae.xs
 refine bf (args:=[_,_]) Tryz.func38 rfl Tryz.ntmps38 rfl ?_
 change Cw _ _ _ _ _ [(0, .agg (bK a)),(1, .agg (bK d))] []
 refine Gc ?_
 refine cq rfl fun b2=> ?_
 refine cq rfl fun b3=> ?_
 refine Gs ?_
 refine Gc ?_
 iterate 6 refine Gs ?_
 iterate 5 refine Gg ?_
 iterate 2 refine Gs ?_
 iterate 4 refine Gg ?_
 refine ca rfl rfl rfl (fun hg=>(Ry.yl (PA (aI hg rfl) (aI hg rfl) Tryz.underlying4))) ?_
 iterate 2 refine Gs ?_
 iterate 7 refine Gg ?_
 refine Gs ?_
 refine Gc ?_
 refine av rfl (fun h0=> ?_) (fun h0=> ?_)
 ·
  replace h0:=bz h0
  have hz:decide (bv a=bv d)=false:=decide_eq_false fun e=>by
   obtain⟨g1,g2,g3,g4⟩:=Fq.1 e
   have g5:=congrArg List.length g4
   simp only[bv,jo]at g1 g2 g3 g5
   rcases h0 with((h|h)|h)|h
   ·
    exact h g1
   ·
    exact h g2
   ·
    rw[g3]at h;simp at h
   ·
    omega
  refine Gc ?_
  refine Gs ?_
  refine Gc ?_
  refine au (.inl rfl) (aM rfl (aq rfl)) (fun w1 hw=> ?_)
  exact⟨congrArg (fun b=>Ending.returned (Value.bool b)) (hz.symm),ai.mem hw⟩
 ·
  replace h0:=bz h0
  have hc:a.used=d.used∧a.aT=d.aT∧a.bad=d.bad∧a.ae.xs.length=d.ae.xs.length:=⟨h0.1.1.1,h0.1.1.2,by simpa using h0.1.2,by omega⟩
  refine Gc ?_
  refine Gs ?_
  refine Gc ?_
  refine cg (X:=Nat) (fun zz=>[(5, .int .i64 (zz:Nat)),(2, .pointer (some ⟨b2,0,none⟩)),(3, .pointer (some ⟨b3,0,none⟩))]) (fun zz=>[ar b3 (bK d) 48,ar b2 (bK a) 48]) (fun zz=>zz≤a.ae.xs.length∧ ∀j,j<zz→(bv a).ae[j]? =(bv d).ae[j]?) (fun zz=>a.ae.xs.length -zz) 0 ⟨Nat.zero_le _,fun j hj=>by first|omega|(simp only[];omega)⟩ (Sub.cons rfl (Sub.cons rfl (Sub.cons rfl (Sub.nil _)))) (fun w hw=>ai.mem hw) ?_
  rintro i ⟨bk,aG⟩
  refine Gc ?_
  iterate 5 refine Gs ?_
  refine Gc ?_
  refine av rfl (fun h1=> ?_) (fun h1=> ?_)
  ·
   replace h1:=bz h1
   obtain⟨x,hx⟩:=get_some (xs:=a.ae.xs) (i:=i) (by omega)
   obtain⟨y,hy⟩:=get_some (xs:=d.ae.xs) (i:=i) (by omega)
   have Cl:Mb x a.ae:=⟨List.mem_of_getElem? hx⟩
   have xf:Mb y d.ae:=⟨List.mem_of_getElem? hy⟩
   refine Gc ?_
   refine iF (by kernel_rfl) (by kernel_rfl) ?_
   iterate 3 refine Gq ?_
   refine bm (bl rfl rfl i rfl (by omega)) ?_
   refine bm (bO (j:=0) rfl i hx rfl (by decide)) ?_
   have X2:Mb x _:=⟨List.mem_of_getElem? hx⟩
   refine bm (AI Tryz.underlying38 Tryz.underlying5 Tryz.underlying9 rfl) ?_
   iterate 3 refine Gq ?_
   refine bm (bl rfl rfl i rfl (by omega)) ?_
   refine bm (bO (j:=0) rfl i hy rfl (by decide)) ?_
   have aiK:Mb y _:=⟨List.mem_of_getElem? hy⟩
   refine bm (AI Tryz.underlying38 Tryz.underlying5 Tryz.underlying9 rfl) ?_
   refine bm (Qe rfl rfl) ?_
   refine Gc ?_
   refine av rfl (fun h2=> ?_) (fun h2=> ?_)
   ·
    replace h2:=bz h2
    have hz:decide (bv a=bv d)=false:=decide_eq_false fun e=>h2 (by
     have g:=congrArg (fun l:List (List UInt8)=>l[i]?) (Fq.1 e).2.2.2
     simp only[bv,kL hx,kL hy]at g
     exact Option.some.inj g)
    refine Gc ?_
    refine Gs ?_
    refine Gc ?_
    refine au (.inl rfl) (aM rfl (aq rfl)) (fun w1 hw=> ?_)
    exact⟨congrArg (fun b=>Ending.returned (Value.bool b)) (hz.symm),ai.mem hw⟩
   ·
    replace h2:=bz h2
    refine Gc ?_
    iterate 3 refine Gs ?_
    refine Gi ?_
    exact bD (x:=(i)) (i+1) ⟨by first|omega|(simp only[];omega),fun j hj=>if e:j=i then(by subst e;rw[show(bv a).ae=aJ a.ae.xs from rfl,show(bv d).ae=aJ d.ae.xs from rfl,kL hx,kL hy,h2])else aG j (by first|omega|(simp only[];omega))⟩ (by first|omega|(simp only[];omega)) (Sub.cons rfl (Sub.cons rfl (Sub.cons rfl (Sub.nil _)))) (fun w hw=>ai.mem hw)
  ·
   replace h1:=bz h1
   obtain rfl:i=a.ae.xs.length:=by omega
   have hz:decide (bv a=bv d)=true:=decide_eq_true (Fq.2 ⟨hc.1,hc.2.1,hc.2.2.1,Te (by simp only[bv,jo];exact hc.2.2.2) fun j hj=>aG j (by simpa only[bv,jo]using hj)⟩)
   refine Gc ?_
   refine Gs ?_
   refine Gc ?_
   refine au (.inl rfl) (aM rfl (aq rfl)) (fun w1 hw=> ?_)
   exact⟨congrArg (fun b=>Ending.returned (Value.bool b)) (hz.symm),ai.mem hw⟩
instance aiL{w0:World}{L:List aj}{a:Bk}{d:Bk}[ha:aW w0 L a][hd:aW w0 L d]:cL Tryz.prog 38 w0 L [.agg (bK a), .agg (bK d)] (.bool (decide (bv a=bv d))) (True):=⟨fun hp w hw=>YQ w a d (ha.h w hw) (hd.h w hw)⟩
open Go.ay Go.Kb
open Go.RowKit
open Go.ay Go.Kb
open Go.RowKit
open Go.ay Go.Kb
open Go.RowKit
theorem YR(n s:Int)(b:Sv)(xs:List Bk)(w:World):(Instr.build 25 #[(0, .int .i64 n),(1, .int .i64 s),(2,b.val)]).run Tryz.prog w= .ok (.agg (aE ⟨n,s,⟨b,xs⟩,0,false,⟨Sv.none,[]⟩⟩)) w:=by
 unfold aE
 obtain⟨e,b,o,l,c,p⟩:=b
 cases e<;>kernel_rfl
theorem YS(w:World)(b:Int)(n:Int)(s:Int):Calls Tryz.prog 31 #[.int .i64 b, .int .i64 n, .int .i64 s] w fun e w'=> ∃zz:Cp,e= .returned (.tuple #[.agg (aE zz), .int .i64 ((nu b n s).2)])∧(cv zz=(nu b n s).1)∧Mem w [fz zz] w':=by
 refine bf (args:=[_,_,_]) Tryz.func31 rfl Tryz.ntmps31 rfl ?_
 change Cw _ _ _ _ _ [(0, .int .i64 b),(1, .int .i64 n),(2, .int .i64 s)] []
 refine Gc ?_
 refine bN fun b6=> ?_
 refine Gs ?_
 refine Gc ?_
 iterate 5 refine Gs ?_
 refine Gc ?_
 refine av rfl (fun h0=> ?_) (fun h0=> ?_)
 ·
  replace h0:=bz h0
  have hN:nu b n s=(⟨0,0,[],0,false,[]⟩,1):=by rw[nu,if_neg (by rw[h0];simp)]
  refine Gc ?_
  refine ah (cU (v:= .agg (aE gf)) rfl (fun w=>by kernel_rfl)) ?_
  iterate 2 refine Gs ?_
  refine Gc ?_
  refine au (.inl rfl) (bo rfl (cj rfl) (aq rfl)) (fun w1 hw=> ?_)
  exact⟨gf,by rw[hN],by rw[hN];rfl,JQ (d:=gf) rfl (show Mem w [own bK 4 Sv.none [],aj.all []] _ from ai.mem (Mem.uF (Mem.dI bK 4 (ai.mem hw:Mem w [] _))))⟩
 ·
  replace h0:=bz h0
  have hY:=jI.1 h0
  have hN:nu b n s=(⟨n,s,List.replicate b.toNat (⟨List.replicate n.toNat (gz s),0,0,false⟩:BV),0,false,[]⟩,0):=by rw[nu,if_pos h0]
  refine Gc ?_
  iterate 3 refine Gs ?_
  refine sI (enc:=bK) (n:=b.toNat) (cap:=b.toNat) mC rfl rfl rfl (by omega) (by omega) (by omega) (by omega) (by omega) fun ia=> ?_
  refine ah (cU (v:= .agg (aE (⟨n,s,⟨⟨false,ia,0,b.toNat,b.toNat,none⟩,[]⟩,0,false,⟨Sv.none,[]⟩⟩:Cp))) rfl (YR n s ⟨false,ia,0,b.toNat,b.toNat,none⟩ [])) ?_
  refine bN fun b8=> ?_
  refine Gs ?_
  refine Gc ?_
  iterate 2 refine Gs ?_
  refine Gc ?_
  refine cg (X:=Nat×List Bk) (fun zz=>[(23, .int .i64 (zz.1:Nat)),(8, .pointer (some ⟨b8,0,none⟩)),(1, .int .i64 n),(2, .int .i64 s),(6, .pointer (some ⟨b6,0,none⟩)),(22, .int .i64 b)]) (fun zz=>[own bK 4 ⟨false,ia,0,b.toNat,b.toNat,none⟩ zz.2,aj.all ((zz.2.take zz.1).map fun b:Bk=>fz b.ae),ar b8 (aE (⟨n,s,⟨⟨false,ia,0,b.toNat,b.toNat,none⟩,[]⟩,0,false,⟨Sv.none,[]⟩⟩:Cp)) 25,ar b6 (aE gf) 25]) (fun zz=>zz.1≤b.toNat∧zz.2.length=b.toNat∧(zz.2.take zz.1).map bv=List.replicate zz.1 (⟨List.replicate n.toNat (gz s),0,0,false⟩:BV)∧ ∀j,zz.1≤j→j<b.toNat→zz.2[j]? =Option.some mC) (fun zz=>b.toNat -zz.1) (0,List.replicate b.toNat mC) ⟨Nat.zero_le _,by simp,by simp,fun j _ hj=>by simp[hj]⟩ (Sub.cons rfl (Sub.cons rfl (Sub.cons rfl (Sub.cons rfl (Sub.cons rfl (Sub.cons rfl (Sub.nil _))))))) (fun w hw=>by
   simp only[List.take_zero,List.map_nil];exact ai.mem (Mem.uF hw)) ?_
  rintro⟨i,zs⟩ ⟨bk,aG,bB,cV⟩
  dsimp only
  simp only at bk aG bB cV
  refine Gc ?_
  refine Gs ?_
  refine Gc ?_
  refine av rfl (fun h1=> ?_) (fun h1=> ?_)
  ·
   replace h1:=bz h1
   obtain⟨z,hz⟩:=get_some (xs:=zs) (i:=i) (by omega)
   obtain rfl:z=mC:=Option.some.inj (hz.symm.trans (cV i (Nat.le_refl _) (by omega)))
   have YT:=Bt (b:=ia) (n:=b.toNat) (by omega)
   refine Gc ?_
   iterate 2 refine Gs ?_
   refine Gc ?_
   refine jm [4,7] [[],[],[],[],[],[4],[4],[4]] [0,1,2,3,4,5,6,7] [ar b8 (aE (⟨n,s,⟨⟨false,ia,0,b.toNat,b.toNat,none⟩,[]⟩,0,false,⟨Sv.none,[]⟩⟩:Cp)) 25] (fun _ hw=>ai.mem hw) (by kernel_rfl) (by kernel_rfl) ?_
   refine an rfl (aH (o':=2) rfl rfl) ?_
   refine an rfl (bI rfl) ?_
   refine an rfl (aF rfl) ?_
   refine an rfl (aF rfl) ?_
   refine dy rfl (Je (enc:=cc (τ:=UInt8)) (n:=n.toNat) (cap:=n.toNat) (⟨Sv.none,[]⟩:Sl UInt8) rfl rfl rfl (by omega) (by omega) (by omega) (by omega) (by omega) fun fM=>⟨fun _ hw=>ai.mem hw,?_⟩)
   obtain⟨e31,aiM⟩:=get_some (xs:=zs) (i:=i) (by omega)
   refine an rfl (lu (s:=⟨false,ia,0,b.toNat,b.toNat,none⟩) (i:=i) rfl rfl rfl YT (by simp only;omega)) ?_
   refine an rfl (aH rfl rfl) ?_
   refine dy rfl (uC (s:=⟨false,ia,0,b.toNat,b.toNat,none⟩) (n:=1) (k:=i) (j:=0) (a:=mC) (a':=⟨⟨⟨false,fM,0,n.toNat,n.toNat,none⟩,[]⟩,0,0,false⟩) (xs:=zs) (enc:=bK) (c:=4) (v:=(⟨false,fM,0,n.toNat,n.toNat,none⟩:Sv).val) (by kernel_rfl) rfl rfl rfl hz (by rw[Sv.iQ];simp[Sv.one]) (by rw[Sv.iQ];rfl) (by decide) (by rw[Sv.iQ];rfl) ⟨fun _ hw=>ai.mem hw,?_⟩)
   iterate 3 refine Gi ?_
   have M3:(zs.set i ⟨⟨⟨false,fM,0,n.toNat,n.toNat,none⟩,[]⟩,0,0,false⟩)[i]? =Option.some (⟨⟨⟨false,fM,0,n.toNat,n.toNat,none⟩,[]⟩,0,0,false⟩:Bk):=List.getElem?_set_self (by omega)
   have tm:(zs.set i ⟨⟨⟨false,fM,0,n.toNat,n.toNat,none⟩,[]⟩,0,0,false⟩).length=b.toNat:=by rw[List.length_set];exact aG
   refine Gi ?_
   iterate 2 refine Gs ?_
   refine Gc ?_
   refine cg (X:=Nat×List (Sl UInt8)) (fun zz=>[(34, .int .i64 (zz.1:Nat)),(8, .pointer (some ⟨b8,0,none⟩)),(1, .int .i64 n),(2, .int .i64 s),(6, .pointer (some ⟨b6,0,none⟩)),(9, .int .i64 (i:Nat)),(22, .int .i64 b),(23, .int .i64 (i:Nat)),(33, .int .i64 n)]) (fun zz=>[own (cc (τ:=UInt8)) 1 ⟨false,fM,0,n.toNat,n.toNat,none⟩ zz.2,aj.all ((zz.2.take zz.1).map fun b:Sl UInt8=>fz b),own bK 4 ⟨false,ia,0,b.toNat,b.toNat,none⟩ (zs.set i ⟨⟨⟨false,fM,0,n.toNat,n.toNat,none⟩,[]⟩,0,0,false⟩),aj.all ((zs.take i).map fun b:Bk=>fz b.ae),ar b8 (aE (⟨n,s,⟨⟨false,ia,0,b.toNat,b.toNat,none⟩,[]⟩,0,false,⟨Sv.none,[]⟩⟩:Cp)) 25,ar b6 (aE gf) 25]) (fun zz=>zz.1≤n.toNat∧zz.2.length=n.toNat∧aJ (zz.2.take zz.1)=List.replicate zz.1 (gz s)) (fun zz=>n.toNat -zz.1) (0,List.replicate n.toNat ⟨Sv.none,[]⟩) ⟨Nat.zero_le _,by simp,by simp[aJ]⟩ (Sub.cons rfl (Sub.cons rfl (Sub.cons rfl (Sub.cons rfl (Sub.cons rfl (Sub.cons rfl (Sub.cons rfl (Sub.cons rfl (Sub.cons rfl (Sub.nil _)))))))))) (fun w hw=>by
    simp only[List.take_zero,List.map_nil]
    exact ai.mem (Mem.uF hw)) ?_
   rintro⟨j,qs⟩ ⟨iC,dF,iN⟩
   dsimp only
   simp only at iC dF iN
   refine Gc ?_
   refine Gs ?_
   refine Gc ?_
   refine av rfl (fun h2=> ?_) (fun h2=> ?_)
   ·
    replace h2:=bz h2
    obtain⟨y,hy⟩:=get_some (xs:=qs) (i:=j) (by omega)
    have YU:=Bt (b:=fM) (n:=n.toNat) (by omega)
    refine Gc ?_
    iterate 2 refine Gs ?_
    refine Gc ?_
    refine jm [8,10] [[],[],[],[],[],[],[],[],[],[8],[8]] [0,1,2,3,4,5,6,7,8,9,10] [ar b8 (aE (⟨n,s,⟨⟨false,ia,0,b.toNat,b.toNat,none⟩,[]⟩,0,false,⟨Sv.none,[]⟩⟩:Cp)) 25,own bK 4 ⟨false,ia,0,b.toNat,b.toNat,none⟩ (zs.set i ⟨⟨⟨false,fM,0,n.toNat,n.toNat,none⟩,[]⟩,0,0,false⟩)] (fun _ hw=>ai.mem hw) (by kernel_rfl) (by kernel_rfl) ?_
    refine an rfl (aH (o':=2) rfl rfl) ?_
    refine an rfl (bI rfl) ?_
    refine an rfl (aF rfl) ?_
    obtain⟨Yh,Yi⟩:=get_some (xs:=(zs.set i ⟨⟨⟨false,fM,0,n.toNat,n.toNat,none⟩,[]⟩,0,0,false⟩)) (i:=i) (by omega)
    refine an rfl (bl (s:=⟨false,ia,0,b.toNat,b.toNat,none⟩) (xs:=(zs.set i ⟨⟨⟨false,fM,0,n.toNat,n.toNat,none⟩,[]⟩,0,0,false⟩)) rfl rfl i rfl (by omega)) ?_
    refine an rfl (aH rfl rfl) ?_
    refine an rfl (Ry.to (v':=(⟨false,fM,0,n.toNat,n.toNat,none⟩:Sv).val) (bO (s:=⟨false,ia,0,b.toNat,b.toNat,none⟩) (j:=0) rfl i M3 rfl (by decide)) rfl) ?_
    refine an rfl (aF rfl) ?_
    refine an rfl (aF rfl) ?_
    refine dy rfl (Je (enc:=aN) (n:=s.toNat) (cap:=s.toNat) 0 rfl rfl rfl (by omega) (by omega) (by omega) (by omega) (by omega) fun pw=>⟨fun _ hw=>ai.mem hw,?_⟩)
    obtain⟨e46,aiN⟩:=get_some (xs:=qs) (i:=j) (by omega)
    refine an rfl (lu (s:=⟨false,fM,0,n.toNat,n.toNat,none⟩) (i:=j) rfl rfl rfl YU (by simp only;omega)) ?_
    refine dy rfl (Q5 (s:=⟨false,fM,0,n.toNat,n.toNat,none⟩) (xs:=qs) (k:=j) (a:=y) (⟨⟨false,pw,0,s.toNat,s.toNat,none⟩,gz s⟩:Sl UInt8) (by kernel_rfl) rfl rfl (by omega) hy ⟨fun _ hw=>ai.mem hw,?_⟩)
    refine Gc ?_
    iterate 3 refine Gs ?_
    obtain⟨e50,aiO⟩:=get_some (xs:=(zs.set i ⟨⟨⟨false,fM,0,n.toNat,n.toNat,none⟩,[]⟩,0,0,false⟩)) (i:=i) (by omega)
    refine ah (bl (s:=⟨false,ia,0,b.toNat,b.toNat,none⟩) (xs:=(zs.set i ⟨⟨⟨false,fM,0,n.toNat,n.toNat,none⟩,[]⟩,0,0,false⟩)) rfl rfl i rfl (by omega)) ?_
    refine ah (aH rfl rfl) ?_
    refine ah (Ry.to (v':=(⟨false,fM,0,n.toNat,n.toNat,none⟩:Sv).val) (bO (s:=⟨false,ia,0,b.toNat,b.toNat,none⟩) (j:=0) rfl i M3 rfl (by decide)) rfl) ?_
    refine Gs ?_
    refine ah (bl rfl rfl j rfl (by rw[List.length_set];omega)) ?_
    refine ah (Ry.to (v':= .slice (some ⟨(⟨false,pw,0,s.toNat,s.toNat,none⟩:Sv).b,(⟨false,pw,0,s.toNat,s.toNat,none⟩:Sv).o+0,none⟩) s.toNat s.toNat) (bO (s:=⟨false,fM,0,n.toNat,n.toNat,none⟩) (xs:=qs.set j (⟨⟨false,pw,0,s.toNat,s.toNat,none⟩,gz s⟩:Sl UInt8)) (j:=0) rfl j (List.getElem?_set_self (by omega)) rfl (by decide)) rfl) ?_
    refine br (hc:=Um (rm:=⟨false,pw,0,s.toNat,s.toNat,none⟩) (k:=0) (n:=s.toNat) (cap:=s.toNat) (xs:=List.replicate s.toNat 0)) rfl ⟨by simp,by omega⟩ fun CD Gw=> ?_
    refine Gc ?_
    iterate 2 refine Gs ?_
    refine Gi ?_
    exact bD (x:=(j,qs)) (j+1,qs.set j (⟨⟨false,pw,0,s.toNat,s.toNat,none⟩,gz s⟩:Sl UInt8)) ⟨by first|omega|(simp only[];omega),by rw[List.length_set];exact dF,by rw[aJ,Bs hy,←aJ,iN,List.replicate_succ']⟩ (by simp only;omega) (Sub.cons rfl (Sub.cons rfl (Sub.cons rfl (Sub.cons rfl (Sub.cons rfl (Sub.cons rfl (Sub.cons rfl (Sub.cons rfl (Sub.cons rfl (Sub.nil _)))))))))) (fun w hw=>by
     have h1:=ED (a:=(⟨⟨false,pw,0,s.toNat,s.toNat,none⟩,gz s⟩:Sl UInt8)) (by
      simp only[List.take_zero,List.nil_append,Nat.zero_add,List.drop_replicate,Nat.sub_self,List.replicate_zero,List.append_nil]at hw
      exact(ai.mem hw:Mem _ (own aN 1 ⟨false,pw,0,s.toNat,s.toNat,none⟩ (List.replicate s.toNat 255)::[own (cc (τ:=UInt8)) 1 ⟨false,fM,0,n.toNat,n.toNat,none⟩ (qs.set j (⟨⟨false,pw,0,s.toNat,s.toNat,none⟩,gz s⟩:Sl UInt8)),aj.all ((qs.take j).map fun b:Sl UInt8=>fz b),own bK 4 ⟨false,ia,0,b.toNat,b.toNat,none⟩ (zs.set i ⟨⟨⟨false,fM,0,n.toNat,n.toNat,none⟩,[]⟩,0,0,false⟩),aj.all ((zs.take i).map fun b:Bk=>fz b.ae),ar b8 (aE (⟨n,s,⟨⟨false,ia,0,b.toNat,b.toNat,none⟩,[]⟩,0,false,⟨Sv.none,[]⟩⟩:Cp)) 25,ar b6 (aE gf) 25]) _))
     have h3:=Mem.wy (ai.mem h1:Mem _ (fz (⟨⟨false,pw,0,s.toNat,s.toNat,none⟩,gz s⟩:Sl UInt8)::aj.all ((qs.take j).map fun b:Sl UInt8=>fz b)::[own (cc (τ:=UInt8)) 1 ⟨false,fM,0,n.toNat,n.toNat,none⟩ (qs.set j (⟨⟨false,pw,0,s.toNat,s.toNat,none⟩,gz s⟩:Sl UInt8)),own bK 4 ⟨false,ia,0,b.toNat,b.toNat,none⟩ (zs.set i ⟨⟨⟨false,fM,0,n.toNat,n.toNat,none⟩,[]⟩,0,0,false⟩),aj.all ((zs.take i).map fun b:Bk=>fz b.ae),ar b8 (aE (⟨n,s,⟨⟨false,ia,0,b.toNat,b.toNat,none⟩,[]⟩,0,false,⟨Sv.none,[]⟩⟩:Cp)) 25,ar b6 (aE gf) 25]) _)
     rw[EN (z':=(⟨⟨false,pw,0,s.toNat,s.toNat,none⟩,gz s⟩:Sl UInt8)) hy]at h3
     exact ai.mem h3)
   ·
    replace h2:=bz h2
    have su:j=n.toNat:=by omega
    have jf:j=qs.length:=by omega
    rw[List.take_of_length_le (by omega)]at iN
    refine Gc ?_
    iterate 2 refine Gs ?_
    refine Gi ?_
    exact bD (x:=(i,zs)) (i+1,zs.set i (⟨⟨⟨false,fM,0,n.toNat,n.toNat,none⟩,qs⟩,0,0,false⟩:Bk)) ⟨by first|omega|(simp only[];omega),by rw[List.length_set];exact aG,by rw[Bs hz,bB,List.replicate_succ',show bv (⟨⟨⟨false,fM,0,n.toNat,n.toNat,none⟩,qs⟩,0,0,false⟩:Bk)=(⟨List.replicate n.toNat (gz s),0,0,false⟩:BV) by rw[bv,iN,su]],fun k hk nS=>by rw[List.getElem?_set_ne (by first|omega|(simp only[];omega))];exact cV k (by first|omega|(simp only[];omega)) nS⟩ (by simp only;omega) (Sub.cons rfl (Sub.cons rfl (Sub.cons rfl (Sub.cons rfl (Sub.cons rfl (Sub.cons rfl (Sub.nil _))))))) (fun w hw=>by
     rw[List.take_of_length_le (by omega)]at hw
     have h1:=EM (ai.mem hw:Mem _ (own (cc (τ:=UInt8)) 1 ⟨false,fM,0,n.toNat,n.toNat,none⟩ qs::aj.all (qs.map fun b:Sl UInt8=>fz b)::[own bK 4 ⟨false,ia,0,b.toNat,b.toNat,none⟩ (zs.set i ⟨⟨⟨false,fM,0,n.toNat,n.toNat,none⟩,[]⟩,0,0,false⟩),aj.all ((zs.take i).map fun b:Bk=>fz b.ae),ar b8 (aE (⟨n,s,⟨⟨false,ia,0,b.toNat,b.toNat,none⟩,[]⟩,0,false,⟨Sv.none,[]⟩⟩:Cp)) 25,ar b6 (aE gf) 25]) _)
     have h2:=EG (ys:=zs.set i (⟨⟨⟨false,fM,0,n.toNat,n.toNat,none⟩,qs⟩,0,0,false⟩:Bk)) (by rw[List.map_set,List.map_set];rfl) (ai.mem h1:Mem _ (own bK 4 ⟨false,ia,0,b.toNat,b.toNat,none⟩ (zs.set i ⟨⟨⟨false,fM,0,n.toNat,n.toNat,none⟩,[]⟩,0,0,false⟩)::[fz (⟨⟨false,fM,0,n.toNat,n.toNat,none⟩,qs⟩:Sl (Sl UInt8)),aj.all ((zs.take i).map fun b:Bk=>fz b.ae),ar b8 (aE (⟨n,s,⟨⟨false,ia,0,b.toNat,b.toNat,none⟩,[]⟩,0,false,⟨Sv.none,[]⟩⟩:Cp)) 25,ar b6 (aE gf) 25]) _)
     have h3:=Mem.wy (ai.mem h2:Mem _ (fz (⟨⟨false,fM,0,n.toNat,n.toNat,none⟩,qs⟩:Sl (Sl UInt8))::aj.all ((zs.take i).map fun b:Bk=>fz b.ae)::[own bK 4 ⟨false,ia,0,b.toNat,b.toNat,none⟩ (zs.set i (⟨⟨⟨false,fM,0,n.toNat,n.toNat,none⟩,qs⟩,0,0,false⟩:Bk)),ar b8 (aE (⟨n,s,⟨⟨false,ia,0,b.toNat,b.toNat,none⟩,[]⟩,0,false,⟨Sv.none,[]⟩⟩:Cp)) 25,ar b6 (aE gf) 25]) _)
     rw[JR (z':=(⟨⟨⟨false,fM,0,n.toNat,n.toNat,none⟩,qs⟩,0,0,false⟩:Bk)) hz]at h3
     exact ai.mem h3)
  ·
   replace h1:=bz h1
   obtain rfl:i=zs.length:=by omega
   rw[List.take_length]at bB
   refine Gc ?_
   iterate 3 refine Gs ?_
   refine Gc ?_
   refine au (.inl rfl) (bo rfl (cj rfl) (aq rfl)) (fun w1 hw=> ?_)
   exact⟨⟨n,s,⟨⟨false,ia,0,b.toNat,b.toNat,none⟩,zs⟩,0,false,⟨Sv.none,[]⟩⟩,by rw[hN];rfl,by rw[hN];simp only[cv,gy];rw[bB,aG],JQ rfl (by rw[List.take_length]at hw;exact ai.mem hw)⟩
instance aiP{w0:World}{L:List aj}{b:Int}{n:Int}{s:Int}:cr Tryz.prog 31 w0 L [.int .i64 b, .int .i64 n, .int .i64 s] (Cp) (fun zz=> .tuple #[.agg (aE zz), .int .i64 ((nu b n s).2)]) (fun zz=>fz zz::L) (fun zz=>cv zz=(nu b n s).1) (True):=⟨fun hp w hw=>(YS w b n s).mono fun e w' ⟨x,h1,h2,h3⟩=>⟨x,h1,h2,hw.call h3⟩⟩
end Go.Proofs.YtaipiecplldinaaGreat
namespace Go.ay
open Go.RowKit
section
variable {P:Program} {N:cB} {w0:World} {env:Env} {L:List aj} {l:List Oper} {Q:Exit→Act→World→Prop} {rest:List Oper} {d:Option Tmp} {ty:TypeId} {ps:String} {af:Array Edge}
end
end Go.ay
namespace Go.Proofs.YtaipiecplldinaaGreat
open Go.ay Go.Kb
open Go.RowKit
open Go.ay Go.Kb
open Go.RowKit
end Go.Proofs.YtaipiecplldinaaGreat
namespace Go.Kb
section
variable {α:Type} (f:α→Nat)
def YV(l:List α):Prop:=l.Pairwise fun a b=>f a≤f b
structure YW(l l':List α):Prop where
 YX:YV f l'
 same: ∀k,l'.filter (fun x=>decide (f x=k))=l.filter (fun x=>decide (f x=k))
variable {f}
def ins(f:α→Nat)(x:α):List α→List α
 |[]=>[x]
 |y::r=>if f y<f x then y::ins f x r else x::y::r
def YX(f:α→Nat)(l:List α):List α:=l.foldr (ins f) []
end
section
variable {α:Type} {f:α→Nat} {xs ys zs:List α} {a b m i j k s e:Nat}
def CR(xs:List α)(i j:Nat):List α:=(xs.drop i).take (j -i)
theorem parts(h1:a≤b)(h2:b≤xs.length):xs=xs.take a++CR xs a b++xs.drop b:=by
 rw[CR,List.append_assoc]
 conv=>lhs;rw[←List.take_append_drop a xs,←List.take_append_drop (b -a) (xs.drop a),List.drop_drop,show a+(b -a)=b by omega]
end
end Go.Kb
namespace Go.ay
open Go.RowKit Go.Kb
section
variable {P:Program} {w0 w:World} {L:List aj} {α:Type} {enc:α→Array Value} {c:Nat} {s:Sv} {xs:List α}
end
section
variable {P:Program} {N:cB} {w0:World} {env:Env} {L:List aj} {l:List Oper} {Q:Exit→Act→World→Prop} {rest:List Oper} {d:Option Tmp} {ty:TypeId} {ps:String} {af:Array Edge} {gd:Option (Nat×Bool)}
end
open Go.Kb
section
variable {α:Type} {f:α→Nat} {xs ys zs ts:List α} {a b m i j k n:Nat}
theorem four{P U W V S:List α}(t:Nat):(P++(U++(W++(V++S))))[t]? =if t<P.length then P[t]?else if t<P.length+U.length then U[t -P.length]?else if t<P.length+U.length+W.length then W[t -P.length -U.length]?else if t<P.length+U.length+W.length+V.length then V[t -P.length -U.length -W.length]?else S[t -P.length -U.length -W.length -V.length]? :=by
 simp only[List.getElem?_append]
 by_cases c1:t<P.length
 ·
  rw[if_pos c1,if_pos c1]
 ·
  rw[if_neg c1,if_neg c1]
  by_cases c2:t<P.length+U.length
  ·
   rw[if_pos c2,if_pos (show t -P.length<U.length by omega)]
  ·
   rw[if_neg c2,if_neg (show ¬t -P.length<U.length by omega)]
   by_cases c3:t<P.length+U.length+W.length
   ·
    rw[if_pos c3,if_pos (show t -P.length -U.length<W.length by omega)]
   ·
    rw[if_neg c3,if_neg (show ¬t -P.length -U.length<W.length by omega)]
    by_cases c4:t<P.length+U.length+W.length+V.length
    ·
     rw[if_pos c4,if_pos (show t -P.length -U.length -W.length<V.length by omega)]
    ·
     rw[if_neg c4,if_neg (show ¬t -P.length -U.length -W.length<V.length by omega)]
end
end Go.ay
namespace Go.Kb
variable {t:List Rt} {k:Key} {bits:Int}
variable {t u:List Rt} {r:Rt} {k:Key} {bits:Int}
theorem aiQ(he:dW t [⟨r,false⟩]=0):fo t ⟨r,false⟩=0∧cT t [⟨r,false⟩]=jy t ⟨r,false⟩:=by
 have hr:dt t=true:=by
  cases h:dt t with
  |true=>rfl
  |false=>rw[dW,if_neg (by rw[h];simp)]at he;omega
 have h2:=he
 rw[dW,if_pos hr,kS]at h2
 have hc:fo t ⟨r,false⟩=0:=by
  apply Classical.byContradiction;intro hn
  rw[if_neg hn]at h2;exact hn h2
 exact⟨hc,by rw[cT,if_pos he,kS,if_pos hc];rfl⟩
theorem CS{c:Ch}(he:fo t c=0):cY c.r.p=true:=by
 apply Classical.byContradiction;intro hn
 rw[fo,if_neg hn]at he;omega
variable {t u:List Rt} {r:Rt} {q p:cR}
theorem M4(hp:cY p=true)(hq:cY q=true)(h:dJ p q=false)(hn:p≠q):dJ q p=true:=by
 rw[lA hq hp]
 have h1: ¬dJ p q=true:=by rw[h];simp
 rw[lA hp hq]at h1
 have h2: ¬(p.bits=q.bits∧p.key.toNat=q.key.toNat∧p.len=q.len):=fun e=>hn (QB.2 e)
 omega
theorem M5(hp:cY p=true)(hq:cY q=true)(h:dJ p q=true):dJ q p=false:=by
 cases hx:dJ q p with
 |false=>rfl
 |true=>rw[lA hq hp]at hx;rw[lA hp hq]at h;omega
theorem M6(hp:cY p=true)(h:dJ p q=true):p≠q:=fun e=>by subst e;rw[w4 hp]at h;cases h
theorem M7{a b c:cR}(ha:cY a=true)(hb:cY b=true)(hc:cY c=true)(h1:dJ a b=true)(h2:dJ b c=true):dJ a c=true:=by
 rw[lA ha hb]at h1;rw[lA hb hc]at h2;rw[lA ha hc];omega
def tI(t:List Rt)(q:cR):List Rt:=t.filter fun x=>dJ x.p q
def qj(t:List Rt)(q:cR):List Rt:=t.filter fun x=>dJ q x.p
theorem filter_all{α:Type}{f:α→Bool}{l:List α}(h: ∀x∈l,f x=true):l.filter f=l:=List.filter_eq_self.2 h
theorem filter_none{α:Type}{f:α→Bool}{l:List α}(h: ∀x∈l,f x=false):l.filter f=[]:=List.filter_eq_nil_iff.2 fun x hx=>by rw[h x hx];simp
theorem Ord.ext: ∀{s t:List Rt},Ord s→Ord t→(∀x,x∈s↔x∈t)→s=t
 |[],[],_,_,_=>rfl
 |[],b::t,_,_,h=>by have:=(h b).2 (List.mem_cons_self);cases this
 |a::s,[],_,_,h=>by have:=(h a).1 (List.mem_cons_self);cases this
 |a::s,b::t,hs,ht,h=>by
  have ha:=(List.pairwise_cons.1 hs.less)
  have hb:=(List.pairwise_cons.1 ht.less)
  have ma:=hs.may a List.mem_cons_self
  have mb:=ht.may b List.mem_cons_self
  have e:a=b:=by
   apply Classical.byContradiction;intro hn
   rcases List.mem_cons.1 ((h a).1 List.mem_cons_self)with h1|h1
   ·
    exact hn h1
   ·
    rcases List.mem_cons.1 ((h b).2 List.mem_cons_self)with h2|h2
    ·
     exact hn h2.symm
    ·
     have h3:=hb.1 a h1
     have h4:=ha.1 b h2
     rw[M5 mb ma h3]at h4;cases h4
  subst e
  have cF: ∀x,(∀y∈s,dJ a.p y.p=true)→x∈s→x≠a:=fun x hy hx e=>by
   subst e;have:=hy x hx;rw[w4 ma]at this;cases this
  rw[Ord.ext (hs.sub (List.sublist_cons_self _ _)) (ht.sub (List.sublist_cons_self _ _)) fun x=>⟨fun hx=> ?_,fun hx=> ?_⟩]
  ·
   rcases List.mem_cons.1 ((h x).1 (List.mem_cons_of_mem _ hx))with h1|h1
   ·
    exact absurd h1 (cF x ha.1 hx)
   ·
    exact h1
  ·
   rcases List.mem_cons.1 ((h x).2 (List.mem_cons_of_mem _ hx))with h1|h1
   ·
    subst h1;have:=hb.1 x hx;rw[w4 ma]at this;cases this
   ·
    exact h1
theorem YY(h:dt t=true)(hq:cY q=true):(∀x∈t.take (cO t q),dJ x.p q=true)∧ ∀x∈t.drop (cO t q),dJ x.p q=false:=by
 obtain⟨h1,h2,h3⟩:=K6 (p:=behind t q) (n:=t.length) fun a b=>K8 h hq a b
 constructor
 ·
  intro x hx
  obtain⟨i,hi⟩:=List.mem_iff_getElem?.1 hx
  have ft:=(List.getElem?_eq_some_iff.1 hi).1
  rw[List.length_take]at ft
  rw[List.getElem?_take,if_pos (by omega)]at hi
  have:=h2 i (by have:cO t q=bs (behind t q) t.length:=rfl;omega)
  simpa[behind,hi]using this
 ·
  intro x hx
  obtain⟨i,hi⟩:=List.mem_iff_getElem?.1 hx
  rw[List.getElem?_drop]at hi
  have ft:=(List.getElem?_eq_some_iff.1 hi).1
  have:=h3 (cO t q+i) (Nat.le_add_right _ _) ft
  simpa[behind,hi]using this
theorem M8(h:dt t=true)(hq:cY q=true):t.take (cO t q)=tI t q∧(kC t q=true→t.drop (cO t q+1)=qj t q)∧(kC t q=false→t.drop (cO t q)=qj t q):=by
 obtain⟨h1,h2⟩:=YY h hq
 have ho:=B4 h
 have e:t=t.take (cO t q)++t.drop (cO t q):=(List.take_append_drop _ _).symm
 have hm: ∀x∈t,cY x.p=true:=ho.may
 have mt: ∀x∈t.take (cO t q),x∈t:=fun x hx=>List.mem_of_mem_take hx
 have md: ∀x∈t.drop (cO t q),x∈t:=fun x hx=>List.mem_of_mem_drop hx
 have k1:t.take (cO t q)=tI t q:=by
  unfold tI
  conv=>rhs;rw[e]
  rw[List.filter_append,filter_all h1,filter_none h2,List.append_nil]
 have k2:qj t q=qj (t.drop (cO t q)) q:=by
  unfold qj
  conv=>lhs;rw[e]
  rw[List.filter_append,filter_none (l:=t.take (cO t q)) fun x hx=>M5 (hm x (mt x hx)) hq (h1 x hx),List.nil_append]
 refine⟨k1,fun hb=> ?_,fun hb=> ?_⟩
 ·
  obtain⟨x,hx,hi,hp⟩:=y8 hb
  obtain⟨ft,nc⟩:=List.getElem?_eq_some_iff.1 hi
  have e2:t.drop (cO t q)=x::t.drop (cO t q+1):=by rw[←nc,List.getElem_cons_drop]
  rw[k2,e2,qj,List.filter_cons,hp,w4 hq]
  simp only[Bool.false_eq_true,if_false]
  refine(filter_all fun y hy=> ?_).symm
  obtain⟨j,hj⟩:=List.mem_iff_getElem?.1 hy
  rw[List.getElem?_drop]at hj
  have:=B3 h (cO t q) (cO t q+1+j) x y (by omega) hi hj
  rw[hp]at this;exact this
 ·
  rw[k2]
  refine(filter_all fun y hy=> ?_).symm
  refine M4 (hm y (md y hy)) hq (h2 y hy) fun ep=> ?_
  have:=(TA h hq (md y hy) ep).2
  rw[hb]at this;cases this
theorem YZ(h:dt t=true)(he:fo t ⟨r,false⟩=0):jy t ⟨r,false⟩=tI t r.p++r::qj t r.p:=by
 obtain⟨k1,k2,k3⟩:=M8 h (CS he)
 rw[jy,if_pos he,if_neg (by simp)]
 by_cases hb:kC t r.p=true
 ·
  obtain⟨x,hx,hi,hp⟩:=y8 hb
  have ft:=(List.getElem?_eq_some_iff.1 hi).1
  rw[if_pos hb,List.set_eq_take_append_cons_drop,if_pos ft,k1,k2 hb]
 ·
  rw[if_neg hb]
  show t.take (cO t r.p)++r::t.drop (cO t r.p)=_
  rw[k1,k3 (by simpa using hb)]
theorem Y0(h:dt t=true)(he:fo t ⟨r,true⟩=0):jy t ⟨r,true⟩=tI t r.p++qj t r.p:=by
 have hm:=CS he
 obtain⟨k1,k2,k3⟩:=M8 h hm
 have hb:kC t r.p=true:=by
  apply Classical.byContradiction;intro hn
  rw[fo,if_pos hm,if_neg hn,if_pos rfl]at he;omega
 rw[jy,if_pos he,if_pos rfl]
 show t.take (cO t r.p)++t.drop (cO t r.p+1)=_
 rw[k1,k2 hb]
theorem Y1(h:Ord t)(hq:cY q=true):t.filter (fun x=>decide (x.p≠q))=tI t q++qj t q:=by
 refine Ord.ext (h.sub List.filter_sublist) ⟨fun x hx=> ?_,?_⟩ fun x=> ?_
 ·
  rcases List.mem_append.1 hx with h1|h1<;>exact h.may x (List.mem_filter.1 h1).1
 ·
  refine List.pairwise_append.2 ⟨h.less.sublist List.filter_sublist,h.less.sublist List.filter_sublist,fun a ha b hb=> ?_⟩
  have ha:=List.mem_filter.1 ha
  have hb:=List.mem_filter.1 hb
  exact M7 (h.may a ha.1) hq (h.may b hb.1) ha.2 hb.2
 ·
  rw[List.mem_append,List.mem_filter,tI,qj,List.mem_filter,List.mem_filter]
  constructor
  ·
   rintro⟨h1,h2⟩
   cases h3:dJ x.p q with
   |true=>exact .inl ⟨h1,rfl⟩
   |false=>exact .inr ⟨h1,M4 (h.may x h1) hq h3 (by simpa using h2)⟩
  ·
   rintro(⟨h1,h2⟩|⟨h1,h2⟩)
   ·
    exact⟨h1,by simpa using M6 (h.may x h1) h2⟩
   ·
    exact⟨h1,by simpa using(M6 hq h2).symm⟩
theorem Y2(h:Ord t)(hr:cY r.p=true):Ord (tI t r.p++r::qj t r.p):=by
 refine⟨fun x hx=> ?_,?_⟩
 ·
  rcases List.mem_append.1 hx with h1|h1
  ·
   exact h.may x (List.mem_filter.1 h1).1
  ·
   rcases List.mem_cons.1 h1 with rfl|h1
   ·
    exact hr
   ·
    exact h.may x (List.mem_filter.1 h1).1
 ·
  refine List.pairwise_append.2 ⟨h.less.sublist List.filter_sublist,List.pairwise_cons.2 ⟨fun y hy=>(List.mem_filter.1 hy).2,h.less.sublist List.filter_sublist⟩,fun a ha b hb=> ?_⟩
  have ha:=List.mem_filter.1 ha
  rcases List.mem_cons.1 hb with rfl|hb
  ·
   exact ha.2
  ·
   have hb:=List.mem_filter.1 hb
   exact M7 (h.may a ha.1) hr (h.may b hb.1) ha.2 hb.2
theorem Y3(h:dt t=true)(c:Ch):dt (jy t c)=true:=by
 by_cases he:fo t c=0
 ·
  refine TB ?_ (Lc (Bc h) c)
  obtain⟨r,g⟩:=c
  cases g with
  |false=>rw[YZ h he];exact Y2 (B4 h) (CS he)
  |true=>rw[Y0 h he,←Y1 (B4 h) (CS he)];exact(B4 h).sub List.filter_sublist
 ·
  rw[jy,if_neg he];exact h
end Go.Kb
namespace Go.ay
open Go.Kb
section
variable {α:Type} {f:α→Nat} {xs ys zs ts:List α} {a b c m i j k n s e:Nat}
def Bk(f:α→Nat)(xs ys:List α)(c lo hi:Nat):Prop:= ∀s,lo≤s→s<hi→s%c=0→YW f (CR xs s (min (s+c) xs.length)) (CR ys s (min (s+c) xs.length))
end
open Go.Kb
open Go.Kb
variable {t ts:List Rt} {k:Key} {bits:Int} {p:cR}
def Fp(ts:List Rt):List Rt:=ts.filter fun r=>decide (r.p.bits=32)
end Go.ay
namespace Go.Proofs.YtaipiecplldinaaGreat
open Go.ay Go.Kb
open Go.ay Go.Kb
open Go.RowKit
end Go.Proofs.YtaipiecplldinaaGreat
namespace Go.Kb
open Go.ay
def M9:Key:=nV fun i=>if i=0 then 10 else 0
def vr:Key:=nV fun i=>if i=0 then 10 else if i=1 then 1 else 0
def px(h:UInt16):Rt:=⟨⟨32,8,M9⟩,h⟩
def GW:CV×Int:=nu 6 2 64
def GX:FV×Int:=nC GW.1
def CT:FV×Int:=cJ GX.1 [⟨px 7,false⟩]
def vt:FV×Int:=dg CT.1.al.ag
theorem Y4:GW.2=0:=by decide+kernel
theorem Y5:GX.2=0:=by decide+kernel
theorem Y6:CT.2=0:=by decide+kernel
theorem Y7:vt.2=0:=by decide+kernel
theorem Y8:u9 vt.1 vr 32=0:=by decide+kernel
theorem Y9:(u7 vt.1 vr 32).dG=7:=by decide+kernel
theorem Za:vt.1.table.length=1:=by decide+kernel
theorem Zb:gp vt.1=true:=by decide+kernel
theorem Zc:tj 6 2 64=4:=by decide+kernel
end Go.Kb
namespace Go.Proofs.YtaipiecplldinaaGreat
open Go.ay Go.Kb
open Go.RowKit
theorem Zd{f:cf}{v:FV}(e:bF f=v)(h:LG v=true):dM f.al.ag∧f.al.at_.xs.length≤1000000∧f.table.xs.length≤1000000:=by
 subst e
 simp only[LG,Bool.and_eq_true,decide_eq_true_eq]at h
 exact⟨oS h.1.1,h.1.2,h.2⟩
theorem Ze(w:World)(h:UInt16):Calls Tryz.prog 53 #[.int .u16 (h.toNat:Nat)] w fun e w'=>e= .returned (.agg (ax (px h)))∧Mem w [] w':=by
 refine bf (args:=[_]) Tryz.func53 rfl Tryz.ntmps53 rfl ?_
 change Cw _ _ _ _ _ [(0, .int .u16 (h.toNat:Nat))] []
 refine Gc ?_
 refine bN fun b2=> ?_
 refine Gc ?_
 refine ah (cU (v:= .agg (cW M9)) rfl (fun w=>by kernel_rfl)) ?_
 refine ah (cU (v:= .agg (c5 (px h).p)) rfl (fun w=>by kernel_rfl)) ?_
 refine Gs ?_
 refine ah (cU (v:= .agg (ax (px h))) rfl (fun w=>by kernel_rfl)) ?_
 refine Gs ?_
 refine Gc ?_
 refine au (.inl rfl) (aM rfl (cj rfl)) (fun w1 hw=> ?_)
 exact⟨rfl,ai.mem hw⟩
instance aiR{w0:World}{L:List aj}{h:UInt16}:cL Tryz.prog 53 w0 L [.int .u16 (h.toNat:Nat)] (.agg (ax (px h))) (True):=⟨fun hp w hw=>Ze w h⟩
theorem Zf(w:World):Calls Tryz.prog 20 #[] w fun e w'=>e= .returned (.bool true)∧Mem w [] w':=by
 refine bf (args:=[]) Tryz.func20 rfl Tryz.ntmps20 rfl ?_
 change Cw _ _ _ _ _ [] []
 refine Gc ?_
 refine Gs ?_
 refine Gc ?_
 refine br rfl trivial fun pt Gt=> ?_
 have xC:cv pt=GW.1:=Gt
 have ib:(nu 6 2 64).2=0:=Y4
 have Zg:dM pt:=oS (by rw[xC];decide+kernel)
 refine Gs ?_
 refine ah (aV (v:= .agg (aE pt)) rfl rfl) ?_
 refine ah (aV (v:= .int .i64 ((nu 6 2 64).2)) rfl rfl) ?_
 refine bN fun b1=> ?_
 iterate 2 refine Gs ?_
 refine Gc ?_
 refine Gs ?_
 refine br rfl Zg fun fL zE=> ?_
 have GY:bF fL=GX.1:=by rw[zE,xC];rfl
 have ic:(nC (cv pt)).2=0:=by rw[xC];exact Y5
 have Zh:=Zd GY (by decide+kernel)
 refine Gs ?_
 refine ah (aV (v:= .agg (bS fL)) rfl rfl) ?_
 refine ah (aV (v:= .int .i64 ((nC (cv pt)).2)) rfl rfl) ?_
 refine bN fun b3=> ?_
 iterate 2 refine Gs ?_
 refine Gc ?_
 refine oO [3,4,8,9,2003,2008,4004] [[],[],[],[],[3],[3,4],[3,4],[3,4],[],[3,4,8],[3,4,8,9]] [0,1,2,3,4,5,6,7,8,9,10] [ar b3 (bS fL) 54,fz fL] [(3,qF fQ 20 1 [(⟨px 7,false⟩:Ch)]),(8,jl Tryz.prog 54)] (by kernel_rfl) (fun _ hw=>ai.mem hw) (by kernel_rfl) (by kernel_rfl) ?_
 refine an rfl (fN rfl) ?_
 refine uD rfl (cM (vs:=[.int .u16 ((7:UInt16).toNat:Int)]) rfl trivial) ?_
 refine an rfl (sA rfl) ?_
 refine my (m:=qF fQ 20 1 [(⟨px 7,false⟩:Ch)]) rfl rfl (Ep (enc:=fQ) (c:=20) (n:=1) (vals:=[.agg (fQ (⟨px 7,false⟩:Ch))]) [(⟨px 7,false⟩:Ch)] rfl rfl rfl (by decide) (by decide)) (Cert.one (i:=8) rfl rfl rfl iR (Cert.none rfl)) fun Na=> ?_
 change Ln _ _ _ _ _ _ _ _ (cw _ _ (Sv.val ⟨false,Na,0,1,1,none⟩)) (own fQ 20 ⟨false,Na,0,1,1,none⟩ [(⟨px 7,false⟩:Ch)]::_) _
 refine rI rfl rfl Zh (fun e x w hw=>ai.mem hw) (Cert.one (i:=8) rfl rfl rfl iR (Cert.none rfl)) fun vj F8=>⟨fun _ hw=>ai.mem hw,?_⟩
 have Zi:bF vj=CT.1:=by rw[F8,GY];rfl
 have ie:(cJ (bF fL) [(⟨px 7,false⟩:Ch)]).2=0:=by rw[GY];exact Y6
 have Nb:cv vj.al.ag=CT.1.al.ag:=congrArg (fun z:FV=>z.al.ag) Zi
 refine an rfl (aF rfl) ?_
 refine an rfl (aV (v:= .agg (bS vj)) rfl rfl) ?_
 refine an rfl (aV (v:= .int .i64 ((cJ (bF fL) [(⟨px 7,false⟩:Ch)]).2)) rfl rfl) ?_
 refine my (m:=jl Tryz.prog 54) rfl rfl iR (Cert.none rfl) fun b5=> ?_
 change Ln _ _ _ _ _ _ _ _ (cw _ _ (.pointer (some ⟨b5,0,none⟩))) (ar b5 (bS ld) 54::_) _
 refine dy rfl (mw rfl rfl ⟨fun _ hw=>ai.mem hw,?_⟩)
 refine an rfl (bn rfl) ?_
 refine Gc ?_
 iterate 2 refine Gs ?_
 refine ah (jj rfl) ?_
 refine br rfl trivial fun az se=> ?_
 have CU:bF az=vt.1:=by rw[se,Nb];rfl
 have ig:(dg (cv vj.al.ag)).2=0:=by rw[Nb];exact Y7
 have ij:az.table.xs.length=1:=by rw[show az.table.xs=vt.1.table from congrArg FV.table CU];exact Za
 have ik:u9 (bF az) vr 32=0:=by rw[CU];exact Y8
 have iq:(u7 (bF az) vr 32).dG=7:=by rw[CU];exact Y9
 have ir:gp (bF az)=true:=by rw[CU];exact Zb
 have gY:tj 6 2 64=4:=Zc
 refine Gs ?_
 refine ah (aV (v:= .agg (bS az)) rfl rfl) ?_
 refine ah (aV (v:= .int .i64 ((dg (cv vj.al.ag)).2)) rfl rfl) ?_
 refine bN fun b7=> ?_
 iterate 2 refine Gs ?_
 refine Gc ?_
 refine Gs ?_
 refine ah (cU (v:= .agg (cW vr)) rfl (fun w=>by kernel_rfl)) ?_
 iterate 2 refine Gs ?_
 refine ah (aV (v:= .agg (ax (u7 (bF az) vr 32))) rfl rfl) ?_
 refine ah (aV (v:= .int .i64 (u9 (bF az) vr 32)) rfl rfl) ?_
 refine bN fun b9=> ?_
 iterate 2 refine Gs ?_
 refine Gc ?_
 iterate 3 refine Gs ?_
 refine kK rfl rfl rfl (by simp[ib,ic,ie,ig,ik,iq,ij,ir,gY]) (Ry.yl (aF rfl)) ?_
 refine kK rfl rfl rfl (by simp[ib,ic,ie,ig,ik,iq,ij,ir,gY]) (Ry.yl (cz rfl rfl rfl)) ?_
 refine ah (sM rfl (by simp[ib,ic,ie,ig,ik,iq,ij,ir,gY]) rfl rfl) ?_
 refine Gs ?_
 refine kK rfl rfl rfl (by simp[ib,ic,ie,ig,ik,iq,ij,ir,gY]) (Ry.yl (aF rfl)) ?_
 refine kK rfl rfl rfl (by simp[ib,ic,ie,ig,ik,iq,ij,ir,gY]) (Ry.yl (cz rfl rfl rfl)) ?_
 refine ah (sM rfl (by simp[ib,ic,ie,ig,ik,iq,ij,ir,gY]) rfl rfl) ?_
 refine Gs ?_
 refine kK rfl rfl rfl (by simp[ib,ic,ie,ig,ik,iq,ij,ir,gY]) (Ry.yl (aF rfl)) ?_
 refine kK rfl rfl rfl (by simp[ib,ic,ie,ig,ik,iq,ij,ir,gY]) (Ry.yl (cz rfl rfl rfl)) ?_
 refine ah (sM rfl (by simp[ib,ic,ie,ig,ik,iq,ij,ir,gY]) rfl rfl) ?_
 refine Gs ?_
 refine kK rfl rfl rfl (by simp[ib,ic,ie,ig,ik,iq,ij,ir,gY]) (Ry.yl (aF rfl)) ?_
 refine kK rfl rfl rfl (by simp[ib,ic,ie,ig,ik,iq,ij,ir,gY]) (Ry.yl (cz rfl rfl rfl)) ?_
 refine ah (sM rfl (by simp[ib,ic,ie,ig,ik,iq,ij,ir,gY]) rfl rfl) ?_
 refine Gs ?_
 refine kK rfl rfl rfl (by simp[ib,ic,ie,ig,ik,iq,ij,ir,gY]) (Ry.yl (aH (o':=18) rfl rfl)) ?_
 refine kK rfl rfl rfl (by simp[ib,ic,ie,ig,ik,iq,ij,ir,gY]) (Ry.yl (bI rfl)) ?_
 refine kK rfl rfl rfl (by simp[ib,ic,ie,ig,ik,iq,ij,ir,gY]) (Ry.yl (cz rfl rfl rfl)) ?_
 refine ah (sM rfl (by simp[ib,ic,ie,ig,ik,iq,ij,ir,gY]) rfl rfl) ?_
 refine Gs ?_
 refine kK rfl rfl rfl (by simp[ib,ic,ie,ig,ik,iq,ij,ir,gY]) (Ry.yl (aH (o':=9) rfl rfl)) ?_
 refine kK rfl rfl rfl (by simp[ib,ic,ie,ig,ik,iq,ij,ir,gY]) (Ry.yl (bI rfl)) ?_
 refine kK rfl rfl rfl (by simp[ib,ic,ie,ig,ik,iq,ij,ir,gY]) (Ry.yl (kZ rfl)) ?_
 refine kK rfl rfl rfl (by simp[ib,ic,ie,ig,ik,iq,ij,ir,gY]) (Ry.yl (cz rfl rfl rfl)) ?_
 refine ah (sM rfl (by simp[ib,ic,ie,ig,ik,iq,ij,ir,gY]) rfl rfl) ?_
 refine Gs ?_
 refine kK rfl rfl rfl (by simp[ib,ic,ie,ig,ik,iq,ij,ir,gY]) (Ry.yl (fN rfl)) ?_
 refine kK rfl rfl rfl (by simp[ib,ic,ie,ig,ik,iq,ij,ir,gY]) (cM rfl trivial) ?_
 refine ah (sM rfl (by simp[ib,ic,ie,ig,ik,iq,ij,ir,gY]) rfl rfl) ?_
 refine Gs ?_
 refine kK rfl rfl rfl (by simp[ib,ic,ie,ig,ik,iq,ij,ir,gY]) (cM rfl trivial) ?_
 refine kK rfl rfl rfl (by simp[ib,ic,ie,ig,ik,iq,ij,ir,gY]) (Ry.yl (cz rfl rfl rfl)) ?_
 refine ah (sM rfl (by simp[ib,ic,ie,ig,ik,iq,ij,ir,gY]) rfl rfl) ?_
 refine Gs ?_
 refine Gc ?_
 refine au (.inl rfl) (aM rfl (aq rfl)) (fun w1 hw=> ?_)
 exact⟨congrArg (fun b=>Ending.returned (Value.bool b)) ((by simp[gY])),ai.mem hw⟩
instance aiS{w0:World}{L:List aj}:cL Tryz.prog 20 w0 L [] (.bool true) (True):=⟨fun hp w hw=>Zf w⟩
end Go.Proofs.YtaipiecplldinaaGreat
namespace Go.Kb
open Go.ay
theorem GZ{x:Int}(h0:0≤x)(h1:x<256):((cP x).toNat:Int)=x:=by
 rw[cP,b8,Int.emod_eq_of_lt h0 h1]
 simp;omega
theorem xF{α:Type}{a b:List α}{n:Nat}(h:n=a.length):(a++b).drop n=b:=by subst h;simp
theorem CW{α:Type}{a b:List α}{n:Nat}(h:n=a.length):(a++b).take n=a:=by subst h;simp
theorem Nc{p:PV}{n:Int}(h:mH p n=true): ∃k d:UInt8,∃z:List UInt8,(k.toNat:Int)=p.kind∧(d.toNat:Int)=p.id∧(∀x∈z,x=0)∧
  (dq p n).1=[k,d]++(be p.gen 6++(be p.body.length 2++(p.body++(z++be (lP (iT p n.toNat)) 4))))∧iT p n.toNat=[k,d]++(be p.gen 6++(be p.body.length 2++(p.body++z)))∧(dq p n).2=0∧(z.length:Int)=n -14 -p.body.length:=by
 obtain⟨h1,h2,h3,h4,h5,h6⟩:=wD.1 h
 have hf:=uJ.1 h1
 rw[dR,if_pos h1]at h6
 refine⟨cP p.kind,cP p.id,List.replicate (n.toNat -4 -10 -p.body.length) 0,GZ (by omega) (by omega),GZ h3 (by omega),fun x hx=>List.eq_of_mem_replicate hx,?_,?_,?_,?_⟩
 ·
  rw[dq,if_pos h];simp only[iT,List.append_assoc]
 ·
  simp only[iT,List.append_assoc]
 ·
  rw[dq,if_pos h]
 ·
  rw[List.length_replicate];omega
theorem Nf{p:PV}{n:Int}(h:mH p n=true):((dq p n).1.length:Int)=n:=by
 obtain⟨k,d,z,_,_,_,e,_,_,hz⟩:=Nc h
 rw[e]
 simp only[List.length_append,List.length_cons,List.length_nil,hG]
 omega
theorem G0{p:PV}{n:Int}(h:mH p n=true):cN (dq p n).1=(p,0):=by
 have hl:=Nf h
 obtain⟨k,d,z,hk,hd,hz,e,eB,_,tm⟩:=Nc h
 obtain⟨h1,h2,h3,h4,h5,h6⟩:=wD.1 h
 have hf:=uJ.1 h1
 have tg:=h6
 rw[dR,if_pos h1]at tg
 have hn:((dq p n).1.length:Int)=n:=hl
 generalize hc:lP (iT p n.toNat)=C at e
 have hC:C<2^32:=by rw[←hc];exact EB _
 generalize hb:(dq p n).1=b at*
 have e4:b=iT p n.toNat++be C 4:=by rw[e,eB];simp only[List.append_assoc]
 have l4:b.length -4=(iT p n.toNat).length:=by rw[e4,List.length_append,hG];omega
 have gO:k7 b=iT p n.toNat:=by
  rw[k7,l4,List.drop_zero,Nat.sub_zero,e4];exact CW rfl
 have Ct:de (wE b)=C:=by
  rw[wE,l4]
  have:b.drop (iT p n.toNat).length=be C 4:=by rw[e4];exact xF rfl
  rw[this,List.take_of_length_le (by rw[hG];omega),Bb,Nat.mod_eq_of_lt hC]
 have nH:b.getD 0 0=k:=by rw[e];rfl
 have re:b.getD 1 0=d:=by rw[e];rfl
 have v9:b.drop 2=be p.gen 6++(be p.body.length 2++(p.body++(z++be C 4))):=by rw[e];exact xF rfl
 have Ng:b.drop 8=be p.body.length 2++(p.body++(z++be C 4)):=by
  rw[show(8:Nat)=2+6 from rfl,←List.drop_drop,v9];exact xF (by rw[hG])
 have Zj:b.drop 10=p.body++(z++be C 4):=by
  rw[show(10:Nat)=8+2 from rfl,←List.drop_drop,Ng];exact xF (by rw[hG])
 have Zk:de ((b.drop 2).take (8 -2))=p.gen:=by
  rw[v9,CW (by rw[hG]),Bb,Nat.mod_eq_of_lt (Nat.lt_of_lt_of_eq h5 (by decide))]
 have G1:iv b=p.body.length:=by
  rw[iv,Ng,CW (by rw[hG]),Bb,Nat.mod_eq_of_lt (by omega)]
 have Nh:rK b={p with body:=[]}:=by
  rw[rK,Zk,nH,re]
  obtain⟨pk,pi,pg,pb⟩:=p
  simp only at hk hd
  simp only[hk,hd]
 have Zl:jt b=false:=by
  cases lF:jt b with
  |false=>rfl
  |true=>
   have h9:=yX.1 lF k (by rw[e];simp)
   rw[h9]at hk
   have:((255:UInt8).toNat:Int)=255:=by decide
   omega
 have Zm:oT b=true:=by
  have hm:mH (rK b) b.length=true:=by
   rw[Nh,hn]
   exact wD.2 ⟨h1,h2,h3,h4,h5,by rw[dR,if_pos h1];simp only[List.length_nil];omega⟩
  rw[oT,hm,G1,hn,Bool.and_true,decide_eq_true_eq]
  exact h6
 have hzero:uK (mI b)=true:=by
  refine EO.2 fun x hx=>hz x ?_
  have Zn:(k7 b).drop (10+iv b)=z:=by
   rw[gO,G1,eB,←List.drop_drop]
   have:([k,d]++(be p.gen 6++(be p.body.length 2++(p.body++z)))).drop 10=p.body++z:=by
    rw[show[k,d]++(be p.gen 6++(be p.body.length 2++(p.body++z)))=([k,d]++be p.gen 6++be p.body.length 2)++(p.body++z) by simp only[List.append_assoc]]
    exact xF (by simp only[List.length_append,List.length_cons,List.length_nil,hG])
   rw[this];exact xF rfl
  rw[mI,Zn]at hx
  exact List.mem_of_mem_take hx
 have Zo:(b.drop 10).take (10+iv b -10)=p.body:=by
  rw[Zj,G1];exact CW (by omega)
 rw[cN,if_neg (by rw[hn,h1];simp),if_neg (by rw[Zl];simp),if_neg (by rw[Ct,gO,hc];exact fun h=>h rfl),if_neg (by rw[Zm];simp),if_neg (by rw[hzero];simp),Nh,Zo]
theorem Zp{x:Int}(h0:0≤x)(h1:x≤65535):((qA (cP (x/256)) (cP x)).toNat:Int)=x:=by
 have e2:((cP x).toNat:Int)=x%256:=by
  rw[cP,b8];simp;omega
 have e1:=GZ (x:=x/256) (by omega) (by omega)
 rw[DY]
 omega
theorem Ni: ∀(l:List Int) (i:Nat) (x:Int),l[i]? =some x→(gh l).getD (2*i) 0=cP (x/256)∧(gh l).getD (2*i+1) 0=cP x
 |y::r,0,x,h=>by obtain rfl:y=x:=by simpa using h
                 exact⟨rfl,rfl⟩
 |y::r,i+1,x,h=>by
  have h2:=Ni r i x (by simpa using h)
  have e:gh (y::r)=cP (y/256)::cP y::gh r:=rfl
  rw[e,show 2*(i+1)=2*i+1+1 by omega]
  exact h2
theorem Zq{l:List Int}(h: ∀x∈l,uL x=true):ny (gh l)=l:=by
 refine List.ext_getElem? fun i=> ?_
 rcases Nat.lt_or_ge i l.length with hi|hi
 ·
  obtain⟨x,hx⟩: ∃x,l[i]? =some x:=⟨l[i],List.getElem?_eq_getElem hi⟩
  obtain⟨e1,e2⟩:=Ni l i x hx
  have jM:=Bu.1 (h x (List.mem_of_getElem? hx))
  rw[ny,List.getElem?_map,wF,List.getElem?_range (by omega),hx,Option.map_some,oU,e1,e2,Zp jM.1 jM.2]
 ·
  rw[List.getElem?_eq_none hi,List.getElem?_eq_none (by rw[Bw,wF];omega)]
theorem Nj{r:RV}{n:Int}(h:mJ r n=true):mH ⟨2,max 0 ((r.at_.length:Int) -1),r.gen,gh r.at_⟩ n=true:=by
 obtain⟨h1,h2,h3,h4⟩:=uM.1 h
 have hf:nx n=true:=by
  cases hf:nx n with
  |true=>rfl
  |false=>rw[dR,if_neg (by rw[hf];simp)]at h1;exact absurd rfl h1
 rw[jJ]at h3
 have hr:dR n=n -16:=by rw[dR,if_pos hf]
 refine wD.2 ⟨hf, .inr rfl,?_,?_,h2,?_⟩
 ·
  show 0≤max 0 _;omega
 ·
  show max 0 _<(64:Int);omega
 ·
  show((gh r.at_).length:Int)≤_;rw[wF];omega
theorem Zr{r:RV}{n:Int}(h:mJ r n=true):bE (cZ r n).1=(r,0):=by
 have hp:=G0 (Nj h)
 have h4:=(uM.1 h).2.2.2
 rw[cZ,if_pos h,bE,hp]
 have hl:(gh r.at_).length/2=r.at_.length:=by rw[wF];omega
 rw[if_neg (by simp),if_neg (by simp),if_neg,Zq h4]
 simp only[rM,Bool.not_eq_false,Bool.and_eq_true,decide_eq_true_eq]
 refine⟨⟨trivial,by rw[wF];omega⟩,?_⟩
 rw[hl]
theorem Zs{r:RV}{n:Int}(h:mJ r n=true):((cZ r n).1.length:Int)=n:=by
 rw[cZ,if_pos h];exact Nf (Nj h)
theorem Zt{r:RV}{n:Int}(h:(cZ r n).2=0):mJ r n=true:=by
 cases hm:mJ r n with
 |true=>rfl
 |false=>rw[cZ,if_neg (by rw[hm];simp)]at h;cases h
theorem Nk{p:PV}{n:Int}(h:(dq p n).2=0):mH p n=true:=by
 cases hm:mH p n with
 |true=>rfl
 |false=>rw[dq,if_neg (by rw[hm];simp)]at h;cases h
open Go.ay
theorem m7{c:CV}{b:Nat}{o:Int}{f:Bool}{B:BV}(hb:b<c.blocks.length)(k:Int):ak {c with ops:=o,off:=f,blocks:=c.blocks.set b B} k=if k.toNat=b then B else ak c k:=by
 simp only[ak,List.getD,List.getElem?_set]
 by_cases h:b=k.toNat
 ·
  rw[if_pos h,if_pos (by omega),if_pos h.symm];rfl
 ·
  rw[if_neg h,if_neg (fun g=>h g.symm)]
structure Kd(L:List Int)(c d:CV):Prop where
 cx:dB c d
 ok:aS c=true→aS d=true
 km:d.aX=c.aX
 xG: ∀b:Int,(ak c b).bad=true→ak d b=ak c b
 on:c.off=false→(∀f∈c.aX,f.cut=false)→d.off=false
 ops:c.ops≤d.ops
 nm: ∀n∈L,n≠0→jK c (n -1)=true→jK d (n -1)=true∧bR d (n -1)=bR c (n -1)
structure Kp(L:List Int)(c d:CV):Prop extends Kd L c d where
 r0: ∀b:Int,b<2→(ak d b).ae=(ak c b).ae∧(ak d b).used=(ak c b).used
theorem Kd.bW(L:List Int)(c:CV):Kd L c c:=⟨.bW c,id,rfl,fun _ _=>rfl,fun h _=>h,Int.le_refl _,fun _ _ _ h=>⟨h,rfl⟩⟩
theorem Kp.bW(L:List Int)(c:CV):Kp L c c:=⟨.bW L c,fun _ _=>⟨rfl,rfl⟩⟩
theorem Kd.trans{L:List Int}{c d e:CV}(h:Kd L c d)(g:Kd L d e):Kd L c e where
 cx:=h.cx.trans g.cx
 ok:=fun k=>g.ok (h.ok k)
 km:=g.km.trans h.km
 xG:=fun b hb=>by
  have h1:=h.xG b hb
  rw[←h1]at hb
  exact(g.xG b hb).trans h1
 on:=fun h1 h2=>g.on (h.on h1 h2) (by rw[h.km];exact h2)
 ops:=Int.le_trans h.ops g.ops
 nm:=fun n hn h0 hp=>by
  obtain⟨h1,h2⟩:=h.nm n hn h0 hp
  obtain⟨g1,g2⟩:=g.nm n hn h0 h1
  exact⟨g1,g2.trans h2⟩
theorem Kp.trans{L:List Int}{c d e:CV}(h:Kp L c d)(g:Kp L d e):Kp L c e:=
 ⟨h.toKd.trans g.toKd,fun b hb=>⟨(g.r0 b hb).1.trans (h.r0 b hb).1,(g.r0 b hb).2.trans (h.r0 b hb).2⟩⟩
theorem Kd.sub{L M:List Int}{c d:CV}(h:Kd L c d)(hs: ∀n∈M,n∈L):Kd M c d:={h with nm:=fun n hn=>h.nm n (hs n hn)}
theorem Kp.sub{L M:List Int}{c d:CV}(h:Kp L c d)(hs: ∀n∈M,n∈L):Kp M c d:=⟨h.toKd.sub hs,h.r0⟩
theorem G2{L:List Int}{c:CV}{b:Int}{o:Int}{f:Bool}{B:BV}(hh:fy c b=true)(hk:aS c=true→aS {c with ops:=o,off:=f,blocks:=c.blocks.set b.toNat B}=true)(Zu:(ak c b).bad=true→B=ak c b)
  (dO:c.off=false→(∀f∈c.aX,f.cut=false)→f=false) (ho:c.ops≤o)
  (hn: ∀n∈L,n≠0→jK c (n -1)=true→(n -1)/c.ae=b→(n -1)%c.ae<B.used∧B.ae.getD ((n -1)%c.ae).toNat []=(ak c b).ae.getD ((n -1)%c.ae).toNat []):
  Kd L c {c with ops:=o,off:=f,blocks:=c.blocks.set b.toNat B} where
 cx:=⟨rfl,rfl,by simp⟩
 ok:=hk
 km:=rfl
 xG:=fun k hb=>by
  obtain⟨_,h2,h3⟩:=fA.1 hh
  rw[m7 (by omega)]
  split
  ·
   rename_i e
   have e2:ak c k=ak c b:=by simp only[ak,e]
   rw[e2]at hb⊢
   exact Zu hb
  ·
   rfl
 on:=dO
 ops:=ho
 nm:=fun n hm h0 hp=>by
  obtain⟨_,h2,h3⟩:=fA.1 hh
  obtain⟨p1,p2,p3⟩:=mK.1 hp
  have e:=m7 (c:=c) (o:=o) (f:=f) (B:=B) (show b.toNat<c.blocks.length by omega) ((n -1)/c.ae)
  by_cases h:(n -1)/c.ae=b
  ·
   rw[h,if_pos rfl]at e
   obtain⟨g1,g2⟩:=hn n hm h0 hp h
   refine⟨mK.2 ⟨p1,by simpa using p2,?_⟩,?_⟩
   ·
    show _<(ak _ ((n -1)/c.ae)).used
    rw[h,e];exact g1
   ·
    show(ak _ ((n -1)/c.ae)).ae.getD _ []=(ak c ((n -1)/c.ae)).ae.getD _ []
    rw[h,e];exact g2
  ·
   rw[if_neg (by omega)]at e
   refine⟨mK.2 ⟨p1,by simpa using p2,?_⟩,?_⟩
   ·
    show _<(ak _ ((n -1)/c.ae)).used
    rw[e];exact p3
   ·
    show(ak _ ((n -1)/c.ae)).ae.getD _ []=(ak c ((n -1)/c.ae)).ae.getD _ []
    rw[e]
theorem Kd.roots{L:List Int}{c:CV}{b:Int}{o:Int}{f:Bool}{B:BV}(hh:fy c b=true)(h2:2≤b)(h:Kd L c {c with ops:=o,off:=f,blocks:=c.blocks.set b.toNat B}):Kp L c {c with ops:=o,off:=f,blocks:=c.blocks.set b.toNat B}:=
 ⟨h,fun k hk=>by
  obtain⟨_,h3,h4⟩:=fA.1 hh
  rw[m7 (by omega),if_neg (by omega)]
  exact⟨rfl,rfl⟩⟩
theorem Nl{c:CV}(h: ∀f∈c.aX,f.cut=false):((bp c).2&&(bp c).1.cut)=false:=by
 rw[bp]
 cases hf:c.aX.find? fun f=>decide (f.op=c.ops)with
 |none=>rfl
 |some x=>simp only[h x (List.mem_of_find?_eq_some hf),Bool.and_false]
theorem Zv{L:List Int}{c:CV}{b:Int}{p:List UInt8}:Kd L c (dK c b (ak c b).used p):=by
 by_cases h:lC c b (ak c b).used p=true∧c.off=false∧(ak c b).bad=false∧(ak c b).used=(ak c b).used
 ·
  have e:dK c b (ak c b).used p=eS c b (ak c b).used p:=if_pos h
  have hk:=BD (c:=c) (b:=b) (g:=(ak c b).used) (p:=p)
  rw[e]at hk
  obtain⟨h1,h2,h3,_⟩:=h
  obtain⟨j1,j2,j3,j4,j5⟩:=iH.1 h1
  rw[e,eS]
  refine G2 j1 hk (fun g=>by rw[h3]at g;cases g) (fun _ g=>Nl g) (by omega) fun n _ _ hp hb=> ?_
  obtain⟨p1,p2,p3⟩:=mK.1 hp
  rw[hb]at p3
  have h0:0≤(n -1)%c.ae:=Int.emod_nonneg _ (by omega)
  refine⟨by simp only;omega,?_⟩
  simp only[List.getD]
  rw[List.getElem?_set_ne (by omega)]
 ·
  rw[dK,if_neg h];exact .bW L c
theorem Zw{L:List Int}{c:CV}{b:Int}:Kd L c (iS c b):=by
 by_cases h:jZ c b=0
 ·
  have hk:=Kn (c:=c) (b:=b)
  rw[iS,if_pos h]at hk⊢
  have hh:fy c b=true:=by
   cases hq:fy c b with
   |true=>rfl
   |false=>rw[jZ,if_neg (by rw[hq];simp)]at h;cases h
  refine G2 (o:=c.ops) (f:=c.off) hh hk (fun g=> ?_) (fun g _=>g) (Int.le_refl _) fun n _ _ hp hb=> ?_
  ·
   cases hB:ak c b with|mk a1 a2 a3 a4=>rw[hB]at g;simp only at g;rw[g]
  ·
   obtain⟨p1,p2,p3⟩:=mK.1 hp
   rw[hb]at p3
   exact⟨p3,rfl⟩
 ·
  rw[iS,if_neg h];exact .bW L c
theorem Nm{c:CV}{b k:Int}:(ak (iS c b) k).ae=(ak c k).ae∧(ak (iS c b) k).used=(ak c k).used:=by
 rw[iS];split
 ·
  rename_i h
  have hh:fy c b=true:=by
   cases hq:fy c b with
   |true=>rfl
   |false=>rw[jZ,if_neg (by rw[hq];simp)]at h;cases h
  obtain⟨_,h3,h4⟩:=fA.1 hh
  have e:=m7 (c:=c) (o:=c.ops) (f:=c.off) (B:={ak c b with bad:=true}) (show b.toNat<c.blocks.length by omega) k
  rw[e]
  split
  ·
   rename_i e2;have e3:ak c k=ak c b:=by simp only[ak,e2]
   rw[e3];exact⟨rfl,rfl⟩
  ·
   exact⟨rfl,rfl⟩
 ·
  exact⟨rfl,rfl⟩
theorem zP{L:List Int}{c:CV}{b e:Int}:Kp L c (gm c b e):=by
 rw[gm];split
 ·
  exact⟨Zw,fun k _=>Nm⟩
 ·
  exact .bW L c
theorem sh{L:List Int}{c:CV}{b:Int}{p:List UInt8}:Kd L c (bH c b p):=Zv.trans zP.toKd
theorem zQ{c:CV}{b k g:Int}{p:List UInt8}(h:k.toNat≠b.toNat):ak (dK c b g p) k=ak c k:=by
 rw[dK];split
 ·
  rename_i hk
  obtain⟨_,h3,h4⟩:=fA.1 (iH.1 hk.1).1
  rw[eS,m7 (by omega),if_neg h]
 ·
  rfl
theorem CX{L:List Int}{c:CV}{b:Int}{p:List UInt8}(h2:2≤b):Kp L c (bH c b p):=
 ⟨sh,fun k hk=>by
  have h1:=(zP (L:=L) (c:=dK c b (ak c b).used p) (b:=b) (e:=bw c b p)).r0 k hk
  rw[bH,h1.1,h1.2,zQ (by omega)];exact⟨rfl,rfl⟩⟩
def kW(L:List Int)(c:CV)(b:Int):Prop:= ∀n∈L,n≠0→(n -1)/c.ae≠b
theorem Nn{L:List Int}{c:CV}{b:Int}(hd: ∀n∈L,n≠0→jK c (n -1)=true→(n -1)/c.ae≠b):Kd L c (eF c b):=by
 by_cases h:lR c b=true∧c.off=false∧(ak c b).bad=false
 ·
  have hk:=BE (c:=c) (b:=b)
  rw[eF,if_pos h]at hk⊢
  obtain⟨h1,h2,h3⟩:=h
  have hh:=(nv.1 h1).1
  rw[gA]at hk⊢
  exact G2 hh hk (fun g=>by rw[h3]at g;cases g) (fun _ g=>Nl g) (by omega) fun n hn h0 hp hb=>absurd hb (hd n hn h0 hp)
 ·
  rw[eF,if_neg h];exact .bW L c
theorem Zx{L:List Int}{c:CV}{b:Int}(hd:kW L c b):Kd L c (eF c b):=Nn fun n hn h0 _=>hd n hn h0
theorem Zy{L:List Int}{c:CV}{b:Int}(hb:b<2):Kd L c (df c b):=(Nn fun n _ _ hp=>by have:=(mK.1 hp).1;omega).trans zP.toKd
theorem G3{L:List Int}{c:CV}{b:Int}(hd:kW L c b):Kd L c (df c b):=(Zx hd).trans zP.toKd
theorem xH{c:CV}{b k:Int}(h:k.toNat≠b.toNat):ak (eF c b) k=ak c k:=by
 rw[eF];split
 ·
  rename_i hk
  obtain⟨_,h3,h4⟩:=fA.1 (nv.1 hk.1).1
  rw[gA,m7 (by omega),if_neg h]
 ·
  rfl
theorem Zz{L:List Int}{c:CV}{b:Int}(h2:2≤b)(hd:kW L c b):Kp L c (df c b):=
 ⟨G3 hd,fun k hk=>by
  have h1:=(zP (L:=L) (c:=eF c b) (b:=b) (e:=dL c b)).r0 k hk
  rw[df,h1.1,h1.2,xH (by omega)];exact⟨rfl,rfl⟩⟩
theorem kW.cx{L:List Int}{c d:CV}{b:Int}(h:kW L c b)(g:dB c d):kW L d b:=fun n hn h0=>by rw[g.ae];exact h n hn h0
theorem No{L:List Int}: ∀(n:Nat) {c:CV} {b:Int},2≤b→kW L c b→Kp L c (eZ n c b).1
 |0,c,b,h2,hd=>Zz h2 hd
 |n+1,c,b,h2,hd=>by
  rw[eZ];split
  ·
   exact CX h2
  ·
   exact(CX h2).trans (No n h2 (hd.cx (gD _ _ _)))
theorem vu{L:List Int}{c:CV}{b:Int}(h2:2≤b)(hd:kW L c b):Kp L c (cE c b).1:=No _ h2 hd
theorem ZA{c:CV}{b g:Int}{p:List UInt8}(h:jq c b g p=7):(dK c b g p).off=true:=by
 rw[jq]at h
 by_cases h1:lC c b g p=true
 ·
  rw[if_pos h1]at h
  by_cases h2:c.off=true
  ·
   rw[dK,if_neg (fun k=>by rw[h2]at k;cases k.2.1)];exact h2
  ·
   rw[if_neg h2]at h
   by_cases h3:(ak c b).bad=true∨g≠(ak c b).used
   ·
    rw[if_pos h3]at h;cases h
   ·
    rw[if_neg h3]at h
    by_cases h4:(bp c).2=true
    ·
     rw[if_pos h4,jY]at h
     have h5:(bp c).1.cut=true:=by
      cases hc:(bp c).1.cut with
      |true=>rfl
      |false=>rw[if_neg (by rw[hc];simp)]at h;cases h
     have xv:(ak c b).bad=false:=by
      cases hb:(ak c b).bad with
      |true=>exact absurd (.inl hb) h3
      |false=>rfl
     rw[dK,if_pos ⟨h1,by simpa using h2,xv,Classical.byContradiction fun k=>h3 (.inr k)⟩,eS,h4,h5];rfl
    ·
     rw[if_neg h4]at h;cases h
 ·
  rw[if_neg h1]at h;cases h
theorem Np(c:CV)(b e:Int):(gm c b e).off=c.off:=by
 rw[gm];split
 ·
  rw[iS];split<;>rfl
 ·
  rfl
theorem CY{c:CV}{b:Int}{p:List UInt8}(h:bw c b p=7):(bH c b p).off=true:=by rw[bH,Np];exact ZA h
theorem Nq{c:CV}{b:Int}(h:dL c b=7):(df c b).off=true:=by
 rw[df,Np]
 rw[dL]at h
 by_cases h1:lR c b=true
 ·
  rw[if_pos h1]at h
  by_cases h2:c.off=true
  ·
   rw[eF,if_neg (fun k=>by rw[h2]at k;cases k.2.1)];exact h2
  ·
   rw[if_neg h2]at h
   by_cases h3:(ak c b).bad=true
   ·
    rw[if_pos h3]at h;cases h
   ·
    rw[if_neg h3]at h
    by_cases h4:(bp c).2=true
    ·
     rw[if_pos h4,jY]at h
     have h5:(bp c).1.cut=true:=by
      cases hc:(bp c).1.cut with
      |true=>rfl
      |false=>rw[if_neg (by rw[hc];simp)]at h;cases h
     rw[eF,if_pos ⟨h1,by simpa using h2,by simpa using h3⟩,gA,h4,h5];rfl
    ·
     rw[if_neg h4]at h;cases h
 ·
  rw[if_neg h1]at h;cases h
theorem Nr: ∀(n:Nat) {c:CV} {b:Int},(eZ n c b).2=7→(eZ n c b).1.off=true
 |0,c,b,h=>Nq h
 |n+1,c,b,h=>by
  rw[eZ]at h⊢
  by_cases h0:bw c b (gU c)≠0
  ·
   rw[if_pos h0]at h⊢;exact CY h
  ·
   rw[if_neg h0]at h⊢;exact Nr n h
theorem zR{c:CV}{b:Int}(h:(cE c b).2=7):(cE c b).1.off=true:=Nr _ h
open Go.ay
def Pl(c:CV)(a:List Int):Prop:=(∀(i:Nat) (y:Int),a[i]? =some y→y≠0→lS c (i:Int) y=true)∧ ∀(i j:Nat) (y:Int),a[i]? =some y→a[j]? =some y→y≠0→i=j
theorem G4{a:List Int}{i:Nat}{y:Int}:(a.take i).contains y=true↔ ∃j,j<i∧a[j]? =some y:=by
 rw[List.contains_iff_mem,List.mem_take_iff_getElem]
 constructor
 ·
  rintro⟨j,hj,e⟩
  exact⟨j,by omega,by rw[List.getElem?_eq_getElem (by omega),e]⟩
 ·
  rintro⟨j,hj,e⟩
  obtain⟨hl,e2⟩:=List.getElem?_eq_some_iff.1 e
  exact⟨j,by omega,e2⟩
theorem Ns{c:CV}{a:List Int}:qI c a=true↔Pl c a:=by
 rw[By]
 constructor
 ·
  intro h
  have hp: ∀(i:Nat) (y:Int),a[i]? =some y→y≠0→(a.take i).contains y=false∧lS c (i:Int) y=true:=fun i y hy h0=>by
   have hi:=(List.getElem?_eq_some_iff.1 hy).1
   have h1:=h i hi
   rw[KU (ob hy),decide_eq_false h0,Bool.false_or,Bool.and_eq_true,Bool.not_eq_true']at h1
   exact h1
  refine⟨fun i y hy h0=>(hp i y hy h0).2,fun i j y hi hj h0=> ?_⟩
  rcases Nat.lt_trichotomy i j with hl|hl|hl
  ·
   have:=(hp j y hj h0).1
   rw[G4.2 ⟨i,hl,hi⟩]at this;cases this
  ·
   exact hl
  ·
   have:=(hp i y hi h0).1
   rw[G4.2 ⟨j,hl,hj⟩]at this;cases this
 ·
  rintro⟨h1,h2⟩ i hi
  have hy:=List.getElem?_eq_getElem hi
  rw[KU (ob hy)]
  by_cases h0:a[i]=0
  ·
   rw[decide_eq_true h0];rfl
  ·
   rw[h1 i _ hy h0,Bool.and_true,Bool.or_eq_true]
   right
   cases hc:(a.take i).contains a[i]with
   |false=>rfl
   |true=>
    obtain⟨j,hj,e⟩:=G4.1 hc
    have:=h2 i j _ hy e h0;omega
theorem CZ{c:CV}{i n:Int}(h:lS c i n=true):jK c (n -1)=true∧(cN (bR c (n -1))).2=0∧(cN (bR c (n -1))).1.kind=1∧(cN (bR c (n -1))).1.id=i:=by
 rw[lS,Bool.and_eq_true,Bx]at h
 simp only[Bool.and_eq_true,decide_eq_true_eq]at h
 exact⟨h.1,h.2.1.1,h.2.1.2,h.2.2⟩
theorem ZB{c:CV}{i n:Int}{p:PV}(h:jK c (n -1)=true)(h2:cN (bR c (n -1))=(p,0))(hk:p.kind=1)(hi:p.id=i):lS c i n=true:=by
 rw[lS,h,h2,Bx]
 simp[hk,hi]
theorem Pl.kd{c d:CV}{a L:List Int}(h:Pl c a)(k:Kd L c d)(hs: ∀n∈a,n∈L):Pl d a:=
 ⟨fun i y hy h0=>by
  have h1:=h.1 i y hy h0
  obtain⟨g1,g2⟩:=k.nm y (hs y (List.mem_of_getElem? hy)) h0 (CZ h1).1
  rw[lS,g1,g2]
  rw[lS,(CZ h1).1]at h1
  exact h1,h.2⟩
theorem C0{c d:CV}{a L:List Int}(h:Pl c a)(k:Kd L c d)(hs: ∀n∈a,n∈L):a.map (dX d)=a.map (dX c):=by
 refine List.map_congr_left fun y hy=> ?_
 by_cases h0:y=0
 ·
  rw[h0];rfl
 ·
  obtain⟨i,hi⟩:=List.getElem?_of_mem hy
  obtain⟨_,g2⟩:=k.nm y (hs y hy) h0 (CZ (h.1 i y hi h0)).1
  rw[dX,dX,ju,ju,g2]
theorem Pl.place{c:CV}{a:List Int}(h:Pl c a){n:Int}(hn:n∈a)(h0:n≠0):jK c (n -1)=true:=by
 obtain⟨i,hi⟩:=List.getElem?_of_mem hn
 exact(CZ (h.1 i n hi h0)).1
structure dx(x:VV):Prop where
 bears:gC x.ag=true
 roots:(bQ x.ag).2.2=0
 used:(bQ x.ag).1%x.ag.ae<(ak x.ag ((bQ x.ag).1/x.ag.ae)).used
 pl:Pl x.ag x.at_
 at_:(bQ x.ag).2.1.at_=x.at_
 gen:(bQ x.ag).2.1.gen=x.gen
 last:(bQ x.ag).1/x.ag.ae=x.last
theorem xI{x:VV}:kO x=true↔dx x:=by
 rw[Ti,Bool.and_eq_true]
 constructor
 ·
  rintro⟨h1,h2⟩
  simp only[Bool.and_eq_true,decide_eq_true_eq]at h2
  obtain⟨⟨⟨g1,g2⟩,g3⟩,g4⟩:=h2
  rw[rQ]at g1 g2 g3 g4
  by_cases k1:(bQ x.ag).2.2≠0
  ·
   rw[if_pos k1]at g1;exact absurd g1 k1
  ·
   rw[if_neg k1]at g1 g2 g3 g4
   by_cases k2:k8 x.ag=false
   ·
    rw[if_pos k2]at g1;cases g1
   ·
    rw[if_neg k2]at g2 g3 g4
    have G5:k8 x.ag=true:=by simpa using k2
    rw[k8,Bool.and_eq_true,decide_eq_true_eq]at G5
    refine⟨h1,by simpa using k1,G5.1,?_,g2.symm,g3.symm,g4.symm⟩
    rw[g2];exact Ns.1 G5.2
 ·
  intro h
  refine⟨h.bears,?_⟩
  have hl:k8 x.ag=true:=by
   rw[k8,Bool.and_eq_true,decide_eq_true_eq]
   exact⟨h.used,by rw[h.at_];exact Ns.2 h.pl⟩
  rw[rQ,if_neg (fun g=>g h.roots),if_neg (by rw[hl];simp)]
  simp only[h.at_,h.gen,h.last,decide_true,Bool.and_self]
theorem ZC{L:List Int}{c d:CV}(k:Kp L c d):bQ d=bQ c:=by
 rw[bQ,bQ,(k.r0 0 (by decide)).1,(k.r0 1 (by decide)).1]
theorem ZD{L:List Int}{c d:CV}(k:Kd L c d)(h:gC c=true):gC d=true:=by
 obtain⟨h1,h2,h3,h4⟩:=gk.1 h
 exact gk.2 ⟨k.ok h1,by rw[k.cx.len];exact h2,by rw[k.cx.ae];exact h3,by rw[k.cx.size];exact h4⟩
theorem zS{c:CV}(h:gC c=true):((ak c 0).ae.length:Int)=c.ae∧((ak c 1).ae.length:Int)=c.ae:=by
 obtain⟨h1,h2,h3,h4⟩:=gk.1 h
 exact⟨(eA.1 (qN h1 (by decide) (by omega))).1,(eA.1 (qN h1 (by decide) (by omega))).1⟩
theorem Nt{c:CV}(h:gC c=true):0≤(bQ c).1∧(bQ c).1<2*c.ae:=by
 obtain⟨h1,h2⟩:=zS h
 obtain⟨_,_,h3,_⟩:=gk.1 h
 have:=EU (l:=(ak c 0).ae++(ak c 1).ae) (by rw[List.length_append];omega)
 rw[List.length_append]at this
 rw[bQ];omega
theorem dx.kp{x:VV}(h:dx x){d:CV}(k:Kp x.at_ x.ag d):dx {x with ag:=d}:=by
 have e:=ZC k
 have ep:=k.cx.ae
 have hr:=Nt h.bears
 have hp:0<x.ag.ae:=by have:=(gk.1 h.bears).2.2.1;omega
 exact⟨ZD k.toKd h.bears,by show(bQ d).2.2=0;rw[e];exact h.roots,by
  show(bQ d).1%d.ae<(ak d ((bQ d).1/d.ae)).used
  rw[e,ep,(k.r0 _ (Int.ediv_lt_of_lt_mul hp hr.2)).2];exact h.used,h.pl.kd k.toKd fun _ g=>g,by show(bQ d).2.1.at_=_;rw[e];exact h.at_,by show(bQ d).2.1.gen=_;rw[e];exact h.gen,by show(bQ d).1/d.ae=_;rw[e,ep];exact h.last⟩
theorem Nu{l:List Int}{n:Int}(h0:n≠0): ∀k,n∈l.take k→ ∃j,j<k∧j<l.length∧l.getD j 0=n∧oc l j=true
 |0,h=>by simp at h
 |k+1,h=>by
  by_cases hk:n∈l.take k
  ·
   obtain⟨j,h1,h2⟩:=Nu h0 k hk
   exact⟨j,by omega,h2⟩
  ·
   rw[List.take_add_one,List.mem_append]at h
   rcases h with h|h
   ·
    exact absurd h hk
   ·
    have hx:l[k]? =some n:=by simpa[Option.mem_toList]using h
    refine⟨k,by omega,(List.getElem?_eq_some_iff.1 hx).1,ob hx,?_⟩
    rw[oc,ob hx,decide_eq_true h0,Bool.true_and,Bool.not_eq_true']
    cases hc:(l.take k).contains n with
    |false=>rfl
    |true=>exact absurd (List.contains_iff_mem.1 hc) hk
theorem Nv{ae:Int}{l:List Int}{i:Nat}(h:mL ae l l.length i=0): ∀n∈l,n≠0→(n -1)/ae≠(i:Int)+2:=by
 intro n hn h0 hb
 obtain⟨j,h1,h2,h3,h4⟩:=Nu h0 l.length (by rw[List.take_length];exact hn)
 rw[mL,List.length_eq_zero_iff]at h
 have hm:j∈(List.range l.length).filter fun j=>oc l j&&decide ((l.getD j 0 -1)/ae=(i:Int)+2):=List.mem_filter.2 ⟨List.mem_range.2 h2,by rw[h4,h3,decide_eq_true hb];rfl⟩
 rw[h]at hm;cases hm
theorem ZE{c:CV}{fl:List Int}{i:Nat}{x:aA}(h:(aB c fl)[i]? =some x)(hb:x.bad=false)(hl:x.live=0):kW fl c ((i:Int)+2):=by
 have hi:=(List.getElem?_eq_some_iff.1 h).1
 rw[j7]at hi
 rw[E6 hi]at h
 have e:=Option.some.inj h
 intro n hn h0
 refine Nv (l:=fl) ?_ n hn h0
 rw[mM]at e
 split at e
 ·
  rw[←e]at hb;cases hb
 ·
  rw[←e]at hl
  simp only[qJ]at hl
  omega
def py(c:CV)(fl:List Int)(l:List aA):Prop:= ∀(i:Nat) (x:aA),l[i]? =some x→x.bad=false→x.live=0→kW fl c ((i:Int)+2)
theorem C1(c:CV)(fl:List Int):py c fl (aB c fl):=fun _ _ h hb hl=>ZE h hb hl
theorem py.set{c:CV}{fl:List Int}{l:List aA}(h:py c fl l)(i:Nat):py c fl (l.set i bb):=by
 intro j x hx hb hl
 rw[List.getElem?_set]at hx
 split at hx
 ·
  split at hx
  ·
   obtain rfl:=Option.some.inj hx;cases hb
  ·
   cases hx
 ·
  exact h j x hx hb hl
theorem C2{c:CV}{fl:List Int}{l:List aA}(h:py c fl l){R:aA→Bool}{p:Int}(hd:(eV (bX R l) p).2=true):kW fl c ((eV (bX R l) p).1+2)∧0≤(eV (bX R l) p).1:=by
 obtain⟨x,hx,h1,_,h3,h4,_⟩:=og (fun x h=>(kA h).1) hd
 have:=h _ x hx h1 (kA h3).2.1
 refine⟨?_,h4⟩
 change 0≤(eV (bX R l) p).1 at h4
 change kW fl c ((((eV (bX R l) p).1.toNat:Nat):Int)+2)at this
 rwa [Int.toNat_of_nonneg h4]at this
theorem ZF{c:CV}{fl:List Int}(hk:aS c=true)(h2:3≤c.blocks.length)(hi:fI (aB c fl)≠0)(hb: ¬(kP c fl).2=true):(eV (bX gE (aB c fl)) c.ae).2=true:=by
 have hd:=fa hk
 have du:=j7 c fl
 have hw:ky (bX gE (aB c fl)) c.ae=true:=pW.2 ⟨by rw[sX];omega,by rw[sX];omega,by omega,by omega,fun x hx=>by
  obtain⟨i,hi⟩:=List.getElem?_of_mem hx
  obtain⟨y,hy,rfl⟩:=E8 hi
  have t:=s8 hk (List.mem_of_getElem? hy)
  have mN:cK=1099511627776:=rfl
  unfold iI
  split
  ·
   exact oV.2 (by simp only[bb];omega)
  ·
   rename_i hn
   have hl:y.live=0:=by
    cases hR:gE y with
    |true=>simpa[gE]using hR
    |false=>exact absurd (.inr hR) hn
   exact oV.2 ⟨by omega,by have:=t.y0;omega,t.wO,t.KC,t.KD⟩⟩
 have oX:(kP c fl).2=false:=by simpa using hb
 have Fa:=wK hw (show(fB _ _ _ _).2=false from oX)
 have wP:0<((aB c fl).filter fun x=> !x.bad&&decide (x.live=0)).length:=by rw[fI]at hi;omega
 obtain⟨x,hx⟩:=List.exists_mem_of_length_pos wP
 obtain⟨mQ,jM⟩:=List.mem_filter.1 hx
 simp only[Bool.and_eq_true,Bool.not_eq_true',decide_eq_true_eq]at jM
 have qO:iI gE x=x:=by
  unfold iI
  rw[if_neg]
  rintro(g|g)
  ·
   rw[jM.1]at g;cases g
  ·
   rw[show gE x=true by simp[gE,jM.2]]at g;cases g
 have y2:x∈bX gE (aB c fl):=by
  rw[←qO];exact List.mem_map_of_mem mQ
 have y3:=Fa x y2
 have t:=s8 hk mQ
 have pY:lT x=true:=by
  have: ¬x.used<c.ae:=fun h=>by
   rw[nz,jM.1,decide_eq_true h]at y3;cases y3
  simp only[lT,jM.1,Bool.not_false,Bool.true_and,Bool.and_eq_true,decide_eq_true_eq]
  omega
 cases hq:(eV (bX gE (aB c fl)) c.ae).2 with
 |true=>rfl
 |false=>have:=wK hw hq x y2;rw[pY]at this;cases this
theorem Nw{c:CV}{fl:List Int}{aC:Bool}(hk:aS c=true)(h2:3≤c.blocks.length):Kp fl c (bg c fl aC).1∧((bg c fl aC).2.2=7→(bg c fl aC).1.off=true):=by
 rw[bg]
 by_cases h1:(mO c fl).2=true
 ·
  rw[if_pos h1];exact⟨.bW _ _,fun h=>absurd (show(0:Int)=7 from h) (by decide)⟩
 ·
  rw[if_neg h1]
  by_cases h3:fI (aB c fl)=0∨(fI (aB c fl)=1∧aC=false)
  ·
   rw[if_pos h3];exact⟨.bW _ _,fun h=>absurd (show(5:Int)=7 from h) (by decide)⟩
  ·
   rw[if_neg h3]
   by_cases h4:(kP c fl).2=true
   ·
    rw[if_pos h4];exact⟨.bW _ _,fun h=>absurd (show(0:Int)=7 from h) (by decide)⟩
   ·
    rw[if_neg h4]
    obtain⟨d1,d2⟩:=C2 (C1 c fl) (ZF hk h2 (fun e=>h3 (.inl e)) h4)
    exact⟨vu (by show 2≤mP c fl+2;change 0≤mP c fl at d2;omega) d1,zR⟩
theorem C3{L:List Int}{c:CV}{b:Int}{p:List UInt8}(h2:2≤b)(h:bw c b p=0):jK (bH c b p) (b*c.ae+(ak c b).used)=true∧bR (bH c b p) (b*c.ae+(ak c b).used)=p∧
  0≤b*c.ae+(ak c b).used∧jK c (b*c.ae+(ak c b).used)=false:=by
 obtain⟨h1,h3,h4,h5,e⟩:=od h
 obtain⟨j1,j2,j3,j4,j5⟩:=iH.1 h1
 obtain⟨k1,k2,k3⟩:=fA.1 j1
 have hd:(b*c.ae+(ak c b).used)/c.ae=b:=by
  rw[Int.add_comm,Int.add_mul_ediv_right _ _ (by omega),Int.ediv_eq_zero_of_lt j2 j3,Int.zero_add]
 have hm:(b*c.ae+(ak c b).used)%c.ae=(ak c b).used:=by
  rw[Int.add_comm,Int.add_mul_emod_self_right,Int.emod_eq_of_lt j2 j3]
 have bA:=(eA.1 (oR j1)).1
 rw[e]
 refine⟨mK.2 ?_,?_,?_,?_⟩
 ·
  show 2≤(b*c.ae+(ak c b).used)/c.ae∧(b*c.ae+(ak c b).used)/c.ae<((c.blocks.set b.toNat _).length:Int)∧(b*c.ae+(ak c b).used)%c.ae<(ak _ ((b*c.ae+(ak c b).used)/c.ae)).used
  rw[hd,hm,eS,oW j1,List.length_set]
  exact⟨h2,k3,by simp only;omega⟩
 ·
  show(ak _ ((b*c.ae+(ak c b).used)/c.ae)).ae.getD ((b*c.ae+(ak c b).used)%c.ae).toNat []=p
  rw[hd,hm,eS,oW j1]
  simp only[List.getD]
  rw[List.getElem?_set_self (by omega),mE,h5];rfl
 ·
  have:0≤b*c.ae:=Int.mul_nonneg (by omega) (by omega)
  omega
 ·
  cases hq:jK c (b*c.ae+(ak c b).used)with
  |false=>rfl
  |true=>
   obtain⟨p1,p2,p3⟩:=mK.1 hq
   rw[hd,hm]at p3;omega
structure zT(fl:List Int)(c d:CV)(n:Int)(p:List UInt8):Prop where
 pos:1≤n
 ok:jK d (n -1)=true
 pg:bR d (n -1)=p
 new: ∀m∈fl,m≠0→jK c (m -1)=true→m≠n
theorem G6: ∀(n:Nat) {c:CV} {fl:List Int} {aC:Bool} {b:List UInt8},aS c=true→3≤c.blocks.length→(cK -c.ops).toNat<n→
  Kp fl c (gM n c fl aC b).1∧((gM n c fl aC b).2.2=0→zT fl c (gM n c fl aC b).1 (gM n c fl aC b).2.1 b)∧((gM n c fl aC b).2.2=7→(gM n c fl aC b).1.off=true)
 |0,c,fl,aC,b,_,_,hn=>by omega
 |n+1,c,fl,aC,b,hk,h2,hn=>by
  obtain⟨f1,f2,f3,f4,f5⟩:=BK (fl:=fl) (aC:=aC) hk h2
  obtain⟨k1,k2⟩:=Nw (fl:=fl) (aC:=aC) hk h2
  rw[gM]
  by_cases h0:(bg c fl aC).2.2=0
  ·
   rw[if_pos h0]
   obtain⟨g1,g2,g3⟩:=f4 h0
   have kp:=k1.trans (CX (c:=(bg c fl aC).1) (p:=b) (L:=fl) g1)
   by_cases h1:bw (bg c fl aC).1 (bg c fl aC).2.1 b=0
   ·
    rw[if_pos h1]
    refine⟨kp,fun _=> ?_,fun h=>absurd (show(0:Int)=7 from h) (by decide)⟩
    obtain⟨q1,q2,q3,q4⟩:=C3 (L:=fl) g1 h1
    rw[f2.ae]at q1 q2 q3 q4
    have e:(bg c fl aC).2.1*c.ae+(ak (bg c fl aC).1 (bg c fl aC).2.1).used+1 -1=(bg c fl aC).2.1*c.ae+(ak (bg c fl aC).1 (bg c fl aC).2.1).used:=by omega
    refine⟨by simp only;omega,by simp only;rw[e];exact q1,by simp only;rw[e];exact q2,fun m hm h0 hp he=> ?_⟩
    have:=(k1.nm m hm h0 hp).1
    simp only at he
    rw[he,e,q4]at this;cases this
   ·
    rw[if_neg h1]
    by_cases h9:bw (bg c fl aC).1 (bg c fl aC).2.1 b≠9
    ·
     rw[if_pos h9]
     exact⟨kp,fun h=>absurd h h1,CY⟩
    ·
     rw[if_neg h9]
     have ho:=qK g3 (p:=b) (.inl (by simpa using h9))
     have bM:=iU f1 (bg c fl aC).2.1 b
     have hl:=f2.trans (gD (bg c fl aC).1 (bg c fl aC).2.1 b)
     have hle:=pZ bM
     obtain⟨t1,t2,t3⟩:=G6 n (fl:=fl) (aC:=aC) (b:=b) bM (by rw[hl.len];exact h2) (by omega)
     refine⟨kp.trans t1,fun h=> ?_,t3⟩
     have g:=t2 h
     exact⟨g.pos,g.ok,g.pg,fun m hm h0 hp=>g.new m hm h0 (kp.nm m hm h0 hp).1⟩
  ·
   rw[if_neg h0]
   by_cases h9:(bg c fl aC).2.2≠9
   ·
    rw[if_pos h9]
    exact⟨k1,fun h=>absurd h h0,k2⟩
   ·
    rw[if_neg h9]
    have ho:=f5 (by simpa using h9)
    have hle:=pZ f1
    obtain⟨t1,t2,t3⟩:=G6 n (fl:=fl) (aC:=aC) (b:=b) f1 (by rw[f2.len];exact h2) (by omega)
    refine⟨k1.trans t1,fun h=> ?_,t3⟩
    have g:=t2 h
    exact⟨g.pos,g.ok,g.pg,fun m hm h0 hp=>g.new m hm h0 (k1.nm m hm h0 hp).1⟩
theorem Nx{c:CV}{fl:List Int}{aC:Bool}{p:PV}(hk:aS c=true)(h2:3≤c.blocks.length):
  Kp fl c (c8 c fl aC p).1∧((c8 c fl aC p).2.2=0→mH p c.size=true∧zT fl c (c8 c fl aC p).1 (c8 c fl aC p).2.1 (dq p c.size).1)∧((c8 c fl aC p).2.2=7→(c8 c fl aC p).1.off=true):=by
 rw[c8];split
 ·
  rename_i h
  refine⟨.bW _ _,fun g=>absurd g h,fun g=> ?_⟩
  rcases wT p c.size with e|e
  ·
   exact absurd e h
  ·
   simp only at g;rw[e]at g;cases g
 ·
  rename_i h
  obtain⟨t1,t2,t3⟩:=G6 ((cK -c.ops).toNat+1) (fl:=fl) (aC:=aC) (b:=(dq p c.size).1) hk h2 (by omega)
  exact⟨t1,fun g=>⟨Nk (by simpa using h),t2 g⟩,t3⟩
open Go.ay
def rj(bs:List (List UInt8))(l:List (Int×List UInt8)):List (List UInt8):=l.foldl (fun b x=>b.set x.1.toNat x.2) bs
theorem G7{α β:Type}{f:α→β}{l:List α}{i:Nat}{x:α}:(l.set i x).map f=(l.map f).set i (f x):=by rw[List.map_set]
theorem Pl.zero{c:CV}{a:List Int}(h:Pl c a)(i:Nat):Pl c (a.set i 0):=by
 have hs: ∀(j:Nat) (y:Int),(a.set i 0)[j]? =some y→y≠0→a[j]? =some y:=fun j y hy h0=>by
  rw[List.getElem?_set]at hy
  split at hy
  ·
   split at hy
   ·
    exact absurd (Option.some.inj hy).symm h0
   ·
    cases hy
  ·
   exact hy
 exact⟨fun j y hy h0=>h.1 j y (hs j y hy h0) h0,fun j k y hj hk h0=>h.2 j k y (hs j y hj h0) (hs k y hk h0) h0⟩
theorem Pl.put{c d:CV}{a fl:List Int}{i:Nat}{n:Int}{p:PV}{pg:List UInt8}(h:Pl c a)(k:Kd fl c d)(hs: ∀m∈a,m∈fl)(g:zT fl c d n pg)(hp:cN pg=(p,0))(hk:p.kind=1)(hi:p.id=(i:Int)):Pl d (a.set i n):=by
 have hd:=h.kd k hs
 have hn: ∀m∈a,m≠n:=fun m hm e=>by
  have h0:m≠0:=by have:=g.pos;omega
  exact g.new m (hs m hm) h0 (h.place hm h0) e
 have G8: ∀(j:Nat) (y:Int),(a.set i n)[j]? =some y→(j=i∧y=n)∨(a[j]? =some y∧y≠n):=fun j y hy=>by
  rw[List.getElem?_set]at hy
  split at hy
  ·
   rename_i e
   split at hy
   ·
    exact .inl ⟨e.symm,(Option.some.inj hy).symm⟩
   ·
    cases hy
  ·
   exact .inr ⟨hy,hn y (List.mem_of_getElem? hy)⟩
 refine⟨fun j y hy h0=> ?_,fun j l y hj hl h0=> ?_⟩
 ·
  rcases G8 j y hy with⟨rfl,rfl⟩|⟨e,_⟩
  ·
   exact ZB g.ok (by rw[g.pg];exact hp) hk hi
  ·
   exact hd.1 j y e h0
 ·
  rcases G8 j y hj with⟨e1,e2⟩|⟨e1,e2⟩<;>rcases G8 l y hl with⟨e3,e4⟩|⟨e3,e4⟩
  ·
   rw[e1,e3]
  ·
   exact absurd e2 e4
  ·
   exact absurd e4 e2
  ·
   exact h.2 j l y e1 e3 h0
theorem Ny{fl:List Int}{c d:CV}{n:Int}{p:PV}{pg:List UInt8}(g:zT fl c d n pg)(hp:cN pg=(p,0)):dX d n=p.body:=by
 rw[dX,if_neg (by have:=g.pos;omega),ju,g.pg,hp,if_pos rfl]
theorem C4{v:VV}{aC:Bool}: ∀(l:List (Int×List UInt8)) {c:CV} {a:List Int},aS c=true→3≤c.blocks.length→Pl c v.at_→Pl c a→(∀x∈l,0≤x.1)→
  Kp v.at_ c (gW v aC l c a).1∧((gW v aC l c a).2.2=0→Pl (gW v aC l c a).1 (gW v aC l c a).2.1∧(gW v aC l c a).2.1.map (dX (gW v aC l c a).1)=rj (a.map (dX c)) l∧(gW v aC l c a).2.1.length=a.length)∧((gW v aC l c a).2.2=7→(gW v aC l c a).1.off=true)
 |[],c,a,_,_,_,ha,_=>⟨.bW _ _,fun _=>⟨ha,rfl,rfl⟩,fun h=>absurd (show(0:Int)=7 from h) (by decide)⟩
 |x::r,c,a,hk,h2,hv,ha,gX=>by
  have Nz: ∀y∈r,0≤y.1:=fun y hy=>gX y (List.mem_cons_of_mem _ hy)
  have IY:=gX x List.mem_cons_self
  rw[gW]
  by_cases h0:x.2.length=0
  ·
   rw[if_pos h0]
   obtain⟨t1,t2,t3⟩:=C4 (v:=v) (aC:=aC) r hk h2 hv (ha.zero x.1.toNat) Nz
   refine⟨t1,fun h=> ?_,t3⟩
   obtain⟨g1,g2,g3⟩:=t2 h
   refine⟨g1,?_,by rw[g3,List.length_set]⟩
   rw[g2,G7,show dX c 0=x.2 from(List.length_eq_zero_iff.1 h0).symm];rfl
  ·
   rw[if_neg h0]
   obtain⟨k1,k2,k3⟩:=Nx (fl:=v.at_++a) (aC:=aC) (p:=gV v x) hk h2
   by_cases h1:(c8 c (v.at_++a) aC (gV v x)).2.2≠0
   ·
    rw[if_pos h1]
    exact⟨k1.sub fun n hn=>List.mem_append_left _ hn,fun h=>absurd h h1,k3⟩
   ·
    rw[if_neg h1]
    obtain⟨m1,m2⟩:=k2 (by simpa using h1)
    have hb:=G0 m1
    have bA:=ha.put k1.toKd (fun n hn=>List.mem_append_right _ hn) m2 hb rfl (i:=x.1.toNat) (by show x.1=_;omega)
    have xo:=hv.kd k1.toKd fun n hn=>List.mem_append_left _ hn
    obtain⟨t1,t2,t3⟩:=C4 (v:=v) (aC:=aC) r (k1.ok hk) (by rw[k1.cx.len];exact h2) xo bA Nz
    refine⟨(k1.sub fun n hn=>List.mem_append_left _ hn).trans t1,fun h=> ?_,t3⟩
    obtain⟨g1,g2,g3⟩:=t2 h
    refine⟨g1,?_,by rw[g3,List.length_set]⟩
    rw[g2,G7,Ny m2 hb,C0 ha k1.toKd fun n hn=>List.mem_append_right _ hn];rfl
theorem ZG{c:CV}{a0 a:List Int}{src to:Int}(h:(bU c a0 a src to).2=true)(hs:2≤src)(ht:0≤to→to≠src):(bU c a0 a src to).1≠src:=by
 rw[bU]at h⊢
 by_cases h1:to<0
 ·
  rw[if_pos h1]at h⊢
  by_cases h2:(eU ((aB c (a0++a)).set (src -2).toNat bb) c.ae).2=true
  ·
   rw[if_pos h2]
   obtain⟨f1,f2,f3,f4⟩:=wJ h2
   intro e
   simp only at e
   have e2:(eU ((aB c (a0++a)).set (src -2).toNat bb) c.ae).1.toNat=(src -2).toNat:=by omega
   change nz c.ae (((aB c (a0++a)).set (src -2).toNat bb).getD (eU ((aB c (a0++a)).set (src -2).toNat bb) c.ae).1.toNat dm)=true at f4
   change(eU ((aB c (a0++a)).set (src -2).toNat bb) c.ae).1<_ at f3
   change 0≤(eU ((aB c (a0++a)).set (src -2).toNat bb) c.ae).1 at f2
   rw[List.length_set]at f3
   rw[e2]at f4
   simp only[List.getD]at f4
   rw[List.getElem?_set_self (by omega)]at f4
   cases f4
  ·
   rw[if_neg h2]at h;cases h
 ·
  rw[if_neg h1]
  exact ht (by omega)
theorem C5{v:VV}{src to:Int}(lq:2≤src)(pz:0≤to→to≠src)(BP:1≤v.ag.ae): ∀(l:List Int) (id:Nat) {c:CV} {a:List Int},aS c=true→Pl v.ag v.at_→Kp v.at_ v.ag c→Pl c a→a.map (dX c)=v.at_.map (dX v.ag)→
  (0≤to→2≤to∧to<c.blocks.length∧(ak c to).bad=false)→v.at_.drop id=l→(∀j,id≤j→a[j]? =v.at_[j]?)→(∀j n,j<id→a[j]? =some n→n≠0→(n -1)/v.ag.ae≠src)→a.length=v.at_.length→
  Kp v.at_ v.ag (bY v src to l id c a).c∧((bY v src to l id c a).e=none→Pl (bY v src to l id c a).c (bY v src to l id c a).a∧(bY v src to l id c a).a.map (dX (bY v src to l id c a).c)=v.at_.map (dX v.ag)∧(bY v src to l id c a).a.length=v.at_.length∧
   kW (bY v src to l id c a).a v.ag src)∧((bY v src to l id c a).e=some 7→(bY v src to l id c a).c.off=true)∧(bY v src to l id c a).e≠some 9
 |[],id,c,a,hk,hv,oM,ha,hb,ht,hl,iC,dF,fx=>by
  refine⟨oM,fun _=>⟨ha,hb,fx,fun n hn h0=> ?_⟩,fun h=>by simp[bY]at h,by simp[bY]⟩
  obtain⟨j,hj⟩:=List.getElem?_of_mem hn
  have hlen:v.at_.length≤id:=List.drop_eq_nil_iff.1 hl
  have:=(List.getElem?_eq_some_iff.1 hj).1
  exact dF j n (by simp only[bY]at this;omega) hj h0
 |n::r,id,c,a,hk,hv,oM,ha,hb,ht,hl,iC,dF,fx=>by
  have hn:v.at_[id]? =some n:=by
   have:=congrArg (fun l:List Int=>l[0]?) hl
   simpa using this
  have hr:v.at_.drop (id+1)=r:=by
   rw[←List.drop_drop,hl];rfl
  have hp:=oM.cx.ae
  rw[bY]
  by_cases h1:n=0∨(n -1)/v.ag.ae≠src
  ·
   rw[if_pos h1]
   refine C5 lq pz BP r (id+1) hk hv oM ha hb ht hr (fun j hj=>iC j (by omega)) (fun j m hj hm h0=> ?_) fx
   by_cases e:j=id
   ·
    rw[e,iC id (Nat.le_refl _),hn]at hm
    obtain rfl:=Option.some.inj hm
    exact h1.resolve_left h0
   ·
    exact dF j m (by omega) hm h0
  ·
   rw[if_neg h1]
   have h0:n≠0:=fun e=>h1 (.inl e)
   by_cases h2:(bU c v.at_ a src to).2=false
   ·
    rw[if_pos h2];exact⟨oM,fun h=>by simp at h,fun h=>by simp at h,by simp⟩
   ·
    rw[if_neg h2]
    have NA:(bU c v.at_ a src to).2=true:=by simpa using h2
    obtain⟨m1,m2,m3⟩:=Fk NA ht
    have ZH:=ZG NA lq pz
    generalize bU c v.at_ a src to=B at*
    by_cases h3:(dv c ((v.gen:Int)+1) id n).2≠0
    ·
     rw[if_pos h3]
     have wU:(dv c ((v.gen:Int)+1) id n).2=1:=(wT _ _).resolve_left h3
     exact⟨oM,fun h=>by simp at h,fun h=>absurd (wU.symm.trans (Option.some.inj h)) (by decide),fun h=>absurd (wU.symm.trans (Option.some.inj h)) (by decide)⟩
    ·
     rw[if_neg h3]
     have ZI:=Nk (p:=⟨1,id,((v.gen:Int)+1).toNat,ju c n⟩) (n:=c.size) (by simpa[dv]using h3)
     have NB:=G0 ZI
     have zU:=CX (L:=v.at_++a) (c:=c) (p:=(dv c ((v.gen:Int)+1) id n).1) m1
     by_cases h4:bw c B.1 (dv c ((v.gen:Int)+1) id n).1≠0
     ·
      rw[if_pos h4]
      refine⟨oM.trans (zU.sub fun n hn=>List.mem_append_left _ hn),fun h=>by simp at h,fun h=> ?_,fun h=> ?_⟩
      ·
       have h:=Option.some.inj h
       rw[iV]at h
       split at h
       ·
        cases h
       ·
        exact CY h
      ·
       have h:=Option.some.inj h
       rw[iV]at h
       split at h
       ·
        cases h
       ·
        rename_i h9;exact h9 h
     ·
      rw[if_neg h4]
      have qR:bw c B.1 (dv c ((v.gen:Int)+1) id n).1=0:=by simpa using h4
      obtain⟨q1,q2,q3,q4⟩:=C3 (L:=v.at_++a) m1 qR
      rw[hp]at q1 q2 q3 q4
      have e1:B.1*v.ag.ae+(ak c B.1).used+1 -1=B.1*v.ag.ae+(ak c B.1).used:=by omega
      have CB:zT (v.at_++a) c (bH c B.1 (dv c ((v.gen:Int)+1) id n).1) (B.1*v.ag.ae+(ak c B.1).used+1) (dv c ((v.gen:Int)+1) id n).1:=
       ⟨by omega,by rw[e1];exact q1,by rw[e1];exact q2,fun m hm _ tJ he=>by rw[he,e1,q4]at tJ;cases tJ⟩
      have bA:=ha.put zU.toKd (fun n hn=>List.mem_append_right _ hn) CB NB rfl (i:=id) rfl
      have rf:=Ny CB NB
      have dZ:=iH.1 (od qR).1
      have hq:(B.1*v.ag.ae+(ak c B.1).used+1 -1)/v.ag.ae=B.1:=by
       rw[e1,Int.add_comm,Int.add_mul_ediv_right _ _ (by omega),Int.ediv_eq_zero_of_lt dZ.2.1 (by rw[←hp];exact dZ.2.2.1),Int.zero_add]
      have My:dX c n=ju c n:=by
       rw[dX]
       split
       ·
        rename_i ZJ
        have MH:=hv.place (List.mem_of_getElem? hn) h0
        have aiT:=(mK.1 MH).1
        have:(n -1)/v.ag.ae<0:=Int.ediv_neg_of_neg_of_pos ZJ (by omega)
        omega
       ·
        rfl
      refine C5 lq pz BP r (id+1) (zU.ok hk) hv (oM.trans (zU.sub fun n hn=>List.mem_append_left _ hn)) bA ?_ (fun h=> ?_) hr (fun j hj=> ?_) (fun j m hj hm l5=> ?_) (by rw[List.length_set,fx])
      ·
       rw[G7,rf,C0 ha zU.toKd fun n hn=>List.mem_append_right _ hn,hb]
       refine sU ?_
       have e3:=congrArg (fun l:List (List UInt8)=>l[id]?) hb
       simp only[List.getElem?_map]at e3
       rw[iC id (Nat.le_refl _),hn]at e3
       rw[List.getElem?_map,hn]
       simp only[Option.map_some]at e3⊢
       rw[←e3,My]
      ·
       have:=ht h
       rw[(gD c _ _).len,BN qR]
       exact this
      ·
       rw[List.getElem?_set_ne (by omega)];exact iC j (by omega)
      ·
       rw[List.getElem?_set]at hm
       split at hm
       ·
        split at hm
        ·
         obtain rfl:=Option.some.inj hm
         rw[hq];exact ZH
        ·
         cases hm
       ·
        exact dF j m (by omega) hm l5
open Go.ay
def fq(c:CV):Prop:= ∀f∈c.aX,f.mask=0∨f.mask=255
theorem fq.kd{L:List Int}{c d:CV}(h:fq c)(k:Kd L c d):fq d:=by unfold fq;rw[k.km];exact h
theorem fq.NC{c:CV}(h:fq c)(hs:(bp c).2=true):(bp c).1.mask=0∨(bp c).1.mask=255:=by
 rw[bp]at hs⊢
 cases hf:c.aX.find? fun f=>decide (f.op=c.ops)with
 |none=>rw[hf]at hs;cases hs
 |some x=>exact h x (List.mem_of_find?_eq_some hf)
theorem ND(p:List UInt8):cS 0 p=p:=by
 rw[cS]
 conv=>rhs;rw[←List.map_id p]
 exact List.map_congr_left fun x _=>by simp
theorem NF(p:List UInt8):jt (cS 255 p)=true:=by
 refine yX.2 fun x hx=> ?_
 obtain⟨y,_,rfl⟩:=List.mem_map.1 hx
 apply UInt8.eq_of_toBitVec_eq
 show y.toBitVec|||255#8=255#8
 exact BitVec.or_allOnes
theorem G9{p:List UInt8}(h:jt p=true):(bE p).2≠0:=by
 rw[bE]
 by_cases h1:nx p.length=false
 ·
  rw[if_pos (by rw[cN,if_pos h1];decide)];rw[cN,if_pos h1];decide
 ·
  have e:cN p=(jr,0):=by rw[cN,if_neg h1,if_pos h]
  rw[e,if_neg (by decide),if_pos (show(jr,(0:Int)).1.kind=0 from rfl)];decide
theorem ZK(n:Int):jt (gz n)=true:=yX.2 fun _ hx=>List.eq_of_mem_replicate hx
theorem rk{c:CV}(hb:gC c=true){k:Nat}(hk:(k:Int)<2*c.ae):((ak c 0).ae++(ak c 1).ae).getD k []=bR c k:=by
 obtain⟨l0,l1⟩:=zS hb
 have hp:2≤c.ae:=(gk.1 hb).2.2.1
 rw[bR]
 by_cases h:(k:Int)<c.ae
 ·
  rw[Int.ediv_eq_zero_of_lt (by omega) h,Int.emod_eq_of_lt (by omega) h,Int.toNat_natCast]
  simp only[List.getD]
  rw[List.getElem?_append_left (by omega)]
 ·
  have e1:(k:Int)/c.ae=1:=by
   have:(k:Int)=(k -c.ae)+1*c.ae:=by omega
   rw[this,Int.add_mul_ediv_right _ _ (by omega),Int.ediv_eq_zero_of_lt (by omega) (by omega)];rfl
  have e2:(k:Int)%c.ae=k -c.ae:=by
   have:(k:Int)=(k -c.ae)+1*c.ae:=by omega
   rw[this,Int.add_mul_emod_self_right,Int.emod_eq_of_lt (by omega) (by omega)];omega
  rw[e1,e2]
  simp only[List.getD]
  rw[List.getElem?_append_right (by omega)]
  congr 2
  omega
theorem NG{c:CV}(hb:gC c=true){i:Int}(h0:0≤i)(h1:i<2*c.ae)(hi:(bE (bR c i)).2=0)(iD: ∀k,0≤k→k<2*c.ae→(bE (bR c k)).2=0→ ¬((bE (bR c i)).1.gen<(bE (bR c k)).1.gen∨((bE (bR c k)).1.gen=(bE (bR c i)).1.gen∧i<k))):
  bQ c=(i,(bE (bR c i)).1,0):=by
 obtain⟨l0,l1⟩:=zS hb
 obtain⟨n,rfl⟩: ∃n:Nat,i=n:=⟨i.toNat,by omega⟩
 have hl:((ak c 0).ae++(ak c 1).ae).length=(ak c 0).ae.length+(ak c 1).ae.length:=List.length_append
 have hn:n<((ak c 0).ae++(ak c 1).ae).length:=by omega
 have:=KT hn (BU.2 ⟨by rw[rk hb h1];exact hi,fun k hk hv=>by
  rw[rk hb h1,rk hb (by omega)]
  rw[rk hb (by omega)]at hv
  have:=iD k (by omega) (by omega) hv
  omega⟩)
 rw[bQ,this,rk hb h1]
theorem NH{c:CV}(hb:gC c=true)(h:(bQ c).2.2=0):bE (bR c (bQ c).1)=((bQ c).2.1,0)∧ ∀k,0≤k→k<2*c.ae→(bE (bR c k)).2=0→ ¬((bQ c).2.1.gen<(bE (bR c k)).1.gen∨((bE (bR c k)).1.gen=(bQ c).2.1.gen∧(bQ c).1<k)):=by
 obtain⟨l0,l1⟩:=zS hb
 have hl:((ak c 0).ae++(ak c 1).ae).length=(ak c 0).ae.length+(ak c 1).ae.length:=List.length_append
 by_cases hex: ∃i,i<((ak c 0).ae++(ak c 1).ae).length∧uZ ((ak c 0).ae++(ak c 1).ae) i=true
 ·
  obtain⟨i,hi,NI⟩:=hex
  have e:=KT hi NI
  obtain⟨g1,g2⟩:=BU.1 NI
  rw[rk hb (by omega)]at e g1
  rw[bQ,e]
  refine⟨by rw[←g1],fun k k0 k1 hv=> ?_⟩
  obtain⟨n,rfl⟩: ∃n:Nat,k=n:=⟨k.toNat,by omega⟩
  have:=g2 n (by omega) (by rw[rk hb k1];exact hv)
  rw[rk hb k1,rk hb (by omega)]at this
  simp only;omega
 ·
  have:=Tf (l:=(ak c 0).ae++(ak c 1).ae) fun i hi=>by
   cases hq:uZ ((ak c 0).ae++(ak c 1).ae) i with
   |false=>rfl
   |true=>exact absurd ⟨i,hi,hq⟩ hex
  rw[bQ,this]at h
  simp only at h
  split at h<;>cases h
structure Wv(g:Nat)(at_:List Int)(last:Int)(a:List Int)(c:CV):Prop where
 bears:gC c=true
 xi: ∃i:Int,0≤i∧i<2*c.ae∧bE (bR c i)=(⟨g,at_⟩,0)∧i/c.ae=last∧i%c.ae<(ak c last).used∧
  ∀k,0≤k→k<2*c.ae→(bE (bR c k)).2=0→(bE (bR c k)).1.gen<g∨((bE (bR c k)).1.gen=g∧k≤i)∨(bE (bR c k)=(⟨g+1,a⟩,0)∧k%c.ae<(ak c (k/c.ae)).used)
theorem dx.wv{x:VV}(h:dx x)(a:List Int):Wv x.gen x.at_ x.last a x.ag:=by
 obtain⟨h1,h2⟩:=NH h.bears h.roots
 have hr:=Nt h.bears
 refine⟨h.bears,(bQ x.ag).1,hr.1,hr.2,?_,h.last,by rw[←h.last];exact h.used,fun k k0 k1 hv=> ?_⟩
 ·
  rw[h1,←h.at_,←h.gen]
 ·
  have:=h2 k k0 k1 hv
  rw[h.gen]at this
  omega
theorem Wv.step{g:Nat}{at_ a:List Int}{last:Int}{c d:CV}(h:Wv g at_ last a c)(hb:gC d=true)(hP:d.ae=c.ae)
  (hl: ∀i,0≤i→i/c.ae=last→i%c.ae<(ak c last).used→bR d i=bR c i∧i%c.ae<(ak d last).used)
  (hk: ∀k,0≤k→k<2*c.ae→(bE (bR d k)).2=0→(bR d k=bR c k∧(k%c.ae<(ak c (k/c.ae)).used→k%c.ae<(ak d (k/c.ae)).used))∨(bE (bR d k)=(⟨g+1,a⟩,0)∧k%c.ae<(ak d (k/c.ae)).used)):Wv g at_ last a d:=by
 obtain⟨i,i0,i1,i2,i3,i4,i5⟩:=h.xi
 obtain⟨e1,e2⟩:=hl i i0 i3 i4
 refine⟨hb,i,i0,by rw[hP];exact i1,by rw[e1];exact i2,by rw[hP];exact i3,by rw[hP];exact e2,fun k k0 k1 hv=> ?_⟩
 rw[hP]at k1⊢
 rcases hk k k0 k1 hv with⟨q1,q2⟩|q
 ·
  rw[q1]at hv⊢
  rcases i5 k k0 k1 hv with r|r|r
  ·
   exact .inl r
  ·
   exact .inr (.inl r)
  ·
   exact .inr (.inr ⟨r.1,q2 r.2⟩)
 ·
  exact .inr (.inr q)
theorem Wv.NJ{g:Nat}{at_ a:List Int}{last:Int}{c:CV}(h:Wv g at_ last a c)(hp:Pl c at_)(ja: ∀k,0≤k→k<2*c.ae→bE (bR c k)≠(⟨g+1,a⟩,0)):dx ⟨c,at_,g,last⟩:=by
 obtain⟨i,i0,i1,i2,i3,i4,i5⟩:=h.xi
 have e:=NG h.bears i0 i1 (by rw[i2]) (fun k k0 k1 hv=>by
  rw[i2]
  rcases i5 k k0 k1 hv with r|r|r
  ·
   simp only;omega
  ·
   simp only;omega
  ·
   exact absurd r.1 (ja k k0 k1))
 rw[i2]at e
 exact⟨h.bears,by show(bQ c).2.2=0;rw[e],by show(bQ c).1%c.ae<(ak c ((bQ c).1/c.ae)).used;rw[e];simp only;rw[i3];exact i4,hp,by show(bQ c).2.1.at_=at_;rw[e],by show(bQ c).2.1.gen=g;rw[e],by show(bQ c).1/c.ae=last;rw[e];exact i3⟩
theorem NK{P:Int→Prop}{m:Int}: ∀(n:Nat),(∃k,0≤k∧k<m∧P k∧m -k≤n)→ ∃i,0≤i∧i<m∧P i∧ ∀k,k<m→P k→k≤i
 |0,⟨k,_,h1,_,h3⟩=>by omega
 |n+1,⟨k,h0,h1,h2,h3⟩=>by
  by_cases h: ∃j,0≤j∧j<m∧P j∧m -j≤n
  ·
   exact NK n h
  ·
   refine⟨k,h0,h1,h2,fun j hj hP=> ?_⟩
   apply Classical.byContradiction
   intro bt
   exact h ⟨j,by omega,hj,hP,by omega⟩
theorem Wv.NL{g:Nat}{at_ a:List Int}{last:Int}{c:CV}(h:Wv g at_ last a c)(hp:Pl c a){k0:Int}(q0:0≤k0)(q1:k0<2*c.ae)(q2:bE (bR c k0)=(⟨g+1,a⟩,0)):
  ∃i,dx ⟨c,a,g+1,i/c.ae⟩∧0≤i∧i<2*c.ae∧bE (bR c i)=(⟨g+1,a⟩,0)∧ ∀k,k<2*c.ae→bE (bR c k)=(⟨g+1,a⟩,0)→k≤i:=by
 obtain⟨i,i0,i1,i2,i3⟩:=NK (P:=fun k=>bE (bR c k)=(⟨g+1,a⟩,0)) (m:=2*c.ae) (2*c.ae -k0).toNat ⟨k0,q0,q1,q2,by omega⟩
 obtain⟨j,j0,j1,j2,j3,j4,j5⟩:=h.xi
 have e:=NG h.bears i0 i1 (by rw[i2]) (fun k k0 k1 hv=>by
  rw[i2]
  rcases j5 k k0 k1 hv with r|r|r
  ·
   simp only;omega
  ·
   simp only;omega
  ·
   have:=i3 k k1 r.1
   rw[r.1];simp only;omega)
 rw[i2]at e
 have hu:i%c.ae<(ak c (i/c.ae)).used:=by
  rcases j5 i i0 i1 (by rw[i2])with r|r|r
  ·
   rw[i2]at r;simp only at r;omega
  ·
   rw[i2]at r;simp only at r;omega
  ·
   exact r.2
 exact⟨i,⟨h.bears,by show(bQ c).2.2=0;rw[e],by show(bQ c).1%c.ae<(ak c ((bQ c).1/c.ae)).used;rw[e];exact hu,hp,by show(bQ c).2.1.at_=a;rw[e],by show(bQ c).2.1.gen=g+1;rw[e],by show(bQ c).1/c.ae=_;rw[e]⟩,i0,i1,i2,i3⟩
theorem Wv.some{g:Nat}{at_ a:List Int}{last:Int}{c:CV}(h:Wv g at_ last a c)(h1:Pl c at_)(h2:Pl c a): ∃u,dx u∧u.ag=c∧(u=⟨c,at_,g,last⟩∨(u.at_=a∧u.gen=g+1)):=by
 by_cases hex: ∃k,0≤k∧k<2*c.ae∧bE (bR c k)=(⟨g+1,a⟩,0)
 ·
  obtain⟨k,k0,k1,k2⟩:=hex
  obtain⟨i,hi,_⟩:=h.NL h2 k0 k1 k2
  exact⟨_,hi,rfl, .inr ⟨rfl,rfl⟩⟩
 ·
  exact⟨_,h.NJ h1 fun k k0 k1 e=>hex ⟨k,k0,k1,e⟩,rfl, .inl rfl⟩
theorem si{c:CV}{b e k:Int}:(ak (gm c b e) k).ae=(ak c k).ae∧(ak (gm c b e) k).used=(ak c k).used:=by
 rw[gm];split
 ·
  exact Nm
 ·
  exact⟨rfl,rfl⟩
theorem C6{c:CV}{b e k:Int}:bR (gm c b e) k=bR c k:=by
 rw[bR,bR,(BF c b e).ae,si.1]
theorem NM{c:CV}{b k:Int}(bA:fq c)(hk:0≤k)(hp:1≤c.ae)(ri:k/c.ae=b)(hv:(bE (bR (df c b) k)).2=0):bR (df c b) k=bR c k∧(k%c.ae<(ak c b).used→k%c.ae<(ak (df c b) b).used):=by
 rw[df,C6]at hv⊢
 rw[si.2]
 by_cases h:lR c b=true∧c.off=false∧(ak c b).bad=false
 ·
  have hh:=(nv.1 h.1).1
  have e:eF c b=gA c b:=if_pos h
  have eb:ak (gA c b) b={ak c b with used:=if(bp c).2=true then c.ae else 0,aT:=(ak c b).aT+1,ae:=pS c (ak c b).ae}:=oW hh
  have l5:0≤k%c.ae:=Int.emod_nonneg _ (by omega)
  have nE:k%c.ae<c.ae:=Int.emod_lt_of_pos _ (by omega)
  have zn:=(eA.1 (oR hh)).1
  have zV:bR (gA c b) k=(pS c (ak c b).ae).getD (k%c.ae).toNat []:=by
   show(ak (gA c b) (k/c.ae)).ae.getD _ []=_
   rw[ri,eb];rfl
  obtain⟨x,hx⟩: ∃x,(ak c b).ae[(k%c.ae).toNat]? =some x:=⟨_,List.getElem?_eq_getElem (by omega)⟩
  have ec:bR c k=x:=by rw[bR,ri];simp[List.getD,hx]
  rw[e]at hv⊢
  rw[zV,pS]at hv⊢
  by_cases hs:(bp c).2=true
  ·
   rw[if_pos hs]at hv⊢
   have eg:((ak c b).ae.map (cS (bp c).1.mask)).getD (k%c.ae).toNat []=cS (bp c).1.mask x:=by simp[List.getD,hx]
   rw[eg]at hv⊢
   rcases bA.NC hs with m|m
   ·
    rw[m,ND,ec,eb]
    exact⟨rfl,fun _=>by simp only;rw[if_pos hs];exact nE⟩
   ·
    rw[m]at hv;exact absurd hv (G9 (NF x))
  ·
   rw[if_neg hs]at hv
   have eg:((ak c b).ae.map fun _=>gz c.size).getD (k%c.ae).toNat []=gz c.size:=by simp[List.getD,hx]
   rw[eg]at hv
   exact absurd hv (G9 (ZK _))
 ·
  rw[eF,if_neg h];exact⟨rfl,id⟩
theorem Wv.erase{g:Nat}{at_ a:List Int}{last:Int}{c:CV}(h:Wv g at_ last a c)(bA:fq c){b:Int}(hb:b≠last)(nH:0≤b)(pT:0≤last):Wv g at_ last a (df c b):=by
 have hP:=(uP c b).ae
 have hp:2≤c.ae:=(gk.1 h.bears).2.2.1
 have nF:gC (df c b)=true:=by
  obtain⟨h1,h2,h3,h4⟩:=gk.1 h.bears
  exact gk.2 ⟨BG h1 b,by rw[(uP c b).len];exact h2,by rw[hP];exact h3,by rw[(uP c b).size];exact h4⟩
 have zW: ∀k,0≤k→k≠b→(ak (df c b) k).ae=(ak c k).ae∧(ak (df c b) k).used=(ak c k).used:=fun k k0 hk=>by
  rw[df,si.1,si.2,xH (by omega)];exact⟨rfl,rfl⟩
 refine h.step nF hP (fun i i0 i1 i2=> ?_) fun k k0 k1 hv=> .inl ?_
 ·
  obtain⟨e1,e2⟩:=zW last pT (fun e=>hb e.symm)
  exact⟨by rw[bR,bR,hP,i1,e1],by rw[e2];exact i2⟩
 ·
  by_cases e:k/c.ae=b
  ·
   have:=NM bA k0 (by omega) e hv
   rw[e];exact this
  ·
   obtain⟨e1,e2⟩:=zW (k/c.ae) (Int.ediv_nonneg k0 (by omega)) e
   exact⟨by rw[bR,bR,hP,e1],by rw[e2];exact id⟩
theorem ZL{c:CV}{b k:Int}{p:List UInt8}(bA:fq c)(hk:0≤k)(hp:1≤c.ae)(ri:k/c.ae=b)(hv:(bE (bR (bH c b p) k)).2=0):
  (bR (bH c b p) k=bR c k∧(k%c.ae<(ak c b).used→k%c.ae<(ak (bH c b p) b).used))∨(bR (bH c b p) k=p∧k%c.ae<(ak (bH c b p) b).used):=by
 rw[bH,C6]at hv⊢
 rw[si.2]
 by_cases h:lC c b (ak c b).used p=true∧c.off=false∧(ak c b).bad=false∧(ak c b).used=(ak c b).used
 ·
  obtain⟨hh,u0,u1,_,_⟩:=iH.1 h.1
  have e:dK c b (ak c b).used p=eS c b (ak c b).used p:=if_pos h
  have eb:ak (eS c b (ak c b).used p) b={ak c b with used:=(ak c b).used+1,ae:=(ak c b).ae.set (ak c b).used.toNat (mE c p)}:=oW hh
  have l5:0≤k%c.ae:=Int.emod_nonneg _ (by omega)
  have nE:k%c.ae<c.ae:=Int.emod_lt_of_pos _ (by omega)
  have zn:=(eA.1 (oR hh)).1
  have zV:bR (eS c b (ak c b).used p) k=((ak c b).ae.set (ak c b).used.toNat (mE c p)).getD (k%c.ae).toNat []:=by
   show(ak (eS c b (ak c b).used p) (k/c.ae)).ae.getD _ []=_
   rw[ri,eb];rfl
  rw[e]at hv⊢
  rw[zV]at hv⊢
  by_cases hj:k%c.ae=(ak c b).used
  ·
   have eg:((ak c b).ae.set (ak c b).used.toNat (mE c p)).getD (k%c.ae).toNat []=mE c p:=by
    rw[hj];simp only[List.getD];rw[List.getElem?_set_self (by omega)];rfl
   rw[eg]at hv⊢
   right
   refine⟨?_,by rw[eb];simp only;omega⟩
   rw[mE]at hv⊢
   split
   ·
    rename_i hs
    rw[if_pos hs]at hv
    rcases bA.NC hs with m|m
    ·
     rw[m]at hv;exact absurd hv (G9 (NF p))
    ·
     rw[m];exact ND p
   ·
    rfl
  ·
   left
   refine⟨?_,fun bt=>by rw[eb];simp only;omega⟩
   simp only[List.getD]
   rw[List.getElem?_set_ne (by omega),bR,ri];rfl
 ·
  left;rw[dK,if_neg h];exact⟨rfl,id⟩
theorem ZM{c:CV}{b k:Int}{p:List UInt8}(hp:1≤c.ae)(ri:k/c.ae=b)(hu:k%c.ae<(ak c b).used):bR (bH c b p) k=bR c k∧k%c.ae<(ak (bH c b p) b).used:=by
 rw[bH,C6,si.2]
 by_cases h:lC c b (ak c b).used p=true∧c.off=false∧(ak c b).bad=false∧(ak c b).used=(ak c b).used
 ·
  obtain⟨hh,u0,u1,_,_⟩:=iH.1 h.1
  have e:dK c b (ak c b).used p=eS c b (ak c b).used p:=if_pos h
  have eb:ak (eS c b (ak c b).used p) b={ak c b with used:=(ak c b).used+1,ae:=(ak c b).ae.set (ak c b).used.toNat (mE c p)}:=oW hh
  have l5:0≤k%c.ae:=Int.emod_nonneg _ (by omega)
  have zV:bR (eS c b (ak c b).used p) k=((ak c b).ae.set (ak c b).used.toNat (mE c p)).getD (k%c.ae).toNat []:=by
   show(ak (eS c b (ak c b).used p) (k/c.ae)).ae.getD _ []=_
   rw[ri,eb];rfl
  rw[e,zV,eb]
  refine⟨?_,by simp only;omega⟩
  simp only[List.getD]
  rw[List.getElem?_set_ne (by omega),bR,ri];rfl
 ·
  rw[dK,if_neg h];exact⟨rfl,hu⟩
theorem Wv.prog{g:Nat}{at_ a:List Int}{last:Int}{c:CV}{p:List UInt8}(h:Wv g at_ last a c)(bA:fq c){b:Int}(nH:0≤b)(pT:0≤last)(hr:bE p=(⟨g+1,a⟩,0)):Wv g at_ last a (bH c b p):=by
 have hP:=(gD c b p).ae
 have hp:2≤c.ae:=(gk.1 h.bears).2.2.1
 have nF:gC (bH c b p)=true:=by
  obtain⟨h1,h2,h3,h4⟩:=gk.1 h.bears
  exact gk.2 ⟨iU h1 b p,by rw[(gD c b p).len];exact h2,by rw[hP];exact h3,by rw[(gD c b p).size];exact h4⟩
 have zW: ∀k,0≤k→k≠b→(ak (bH c b p) k).ae=(ak c k).ae∧(ak (bH c b p) k).used=(ak c k).used:=fun k k0 hk=>by
  rw[bH,si.1,si.2,zQ (by omega)];exact⟨rfl,rfl⟩
 refine h.step nF hP (fun i i0 i1 i2=> ?_) fun k k0 k1 hv=> ?_
 ·
  by_cases e:last=b
  ·
   have:=ZM (p:=p) (show 1≤c.ae by omega) (i1.trans e) (by rw[←e];exact i2)
   rw[e];exact this
  ·
   obtain⟨e1,e2⟩:=zW last pT e
   exact⟨by rw[bR,bR,hP,i1,e1],by rw[e2];exact i2⟩
 ·
  by_cases e:k/c.ae=b
  ·
   rcases ZL bA k0 (by omega) e hv with q|q
   ·
    left;rw[e];exact q
   ·
    right;rw[q.1,e];exact⟨hr,q.2⟩
  ·
   obtain⟨e1,e2⟩:=zW (k/c.ae) (Int.ediv_nonneg k0 (by omega)) e
   exact .inl ⟨by rw[bR,bR,hP,e1],by rw[e2];exact id⟩
open Go.ay
def zX(c:CV):Prop:=cK≤c.ops∨ ∃b,cK≤(ak c b).aT
def qk(g:Nat)(a:List Int)(c:CV):Prop:= ∀k,0≤k→k<2*c.ae→bE (bR c k)≠(⟨g+1,a⟩,0)
theorem ZN{c:CV}(h:c.aX=[]):(bp c).2=false:=by rw[bp,h];rfl
theorem NN{c:CV}{b:Int}{p:List UInt8}(h:c.aX=[])(he:bw c b p≠0):dK c b (ak c b).used p=c:=by
 rw[dK,if_neg]
 rintro⟨h1,h2,h3,h4⟩
 apply he
 rw[bw,jq,if_pos h1,if_neg (by rw[h2];simp),if_neg (by rw[h3];simp),if_neg (by rw[ZN h];simp)]
theorem qk.erase{g:Nat}{a:List Int}{c:CV}(h:qk g a c)(hb:gC c=true)(bA:fq c){b:Int}(nH:0≤b):qk g a (df c b):=by
 have hP:=(uP c b).ae
 have hp:2≤c.ae:=(gk.1 hb).2.2.1
 intro k k0 k1 he
 rw[hP]at k1
 by_cases e:k/c.ae=b
 ·
  have:=(NM bA k0 (by omega) e (by rw[he])).1
  rw[this]at he;exact h k k0 k1 he
 ·
  have:bR (df c b) k=bR c k:=by
   have hk:=Int.ediv_nonneg k0 (show 0≤c.ae by omega)
   rw[bR,bR,hP,df,si.1,xH (by omega)]
  rw[this]at he;exact h k k0 k1 he
theorem ZO{c:CV}{b:Int}(q:dL c b=1):lR c b=false:=by
 cases ho:lR c b with
 |false=>rfl
 |true=>
  exfalso
  rw[dL,if_pos ho]at q
  by_cases h1:c.off=true
  ·
   rw[if_pos h1]at q;cases q
  ·
   rw[if_neg h1]at q
   by_cases h2:(ak c b).bad=true
   ·
    rw[if_pos h2]at q;cases q
   ·
    rw[if_neg h2]at q
    by_cases h3:(bp c).2=true
    ·
     rw[if_pos h3,jY]at q;split at q<;>cases q
    ·
     rw[if_neg h3]at q;cases q
theorem ZP{g:Nat}{at_ a:List Int}{last:Int}{c:CV}(h:Wv g at_ last a c)(bA:fq c)(hl:last=0∨last=1):
  (∀L,Kd L c (aU c last).1)∧Wv g at_ last a (aU c last).1∧(qk g a c→qk g a (aU c last).1)∧((aU c last).2.2=7→(aU c last).1.off=true)∧
   ((aU c last).2.2=0→((aU c last).2.1=0∨(aU c last).2.1=1)∧0<eH (aU c last).1 (aU c last).2.1)∧((aU c last).2.2≠0→(aU c last).2.2=7∨(aU c last).2.2=9∨((aU c last).2.2=1∧zX (aU c last).1)):=by
 have hk:=(gk.1 h.bears).1
 have h4:=(gk.1 h.bears).2.1
 have z7: ∀{P:Prop},(0:Int)=7→P:=fun h=>absurd h (by decide)
 rw[aU]
 by_cases h1:0<eH c last
 ·
  rw[if_pos h1];exact⟨fun L=> .bW _ _,h,id,fun h=>z7 h,fun _=>⟨hl,h1⟩,fun h=>absurd rfl h⟩
 ·
  rw[if_neg h1]
  by_cases h2:0<eH c (1 -last)
  ·
   rw[if_pos h2];exact⟨fun L=> .bW _ _,h,id,fun h=>z7 h,fun _=>⟨by simp only;omega,h2⟩,fun h=>absurd rfl h⟩
  ·
   rw[if_neg h2]
   by_cases h3:(ak c (1 -last)).bad=true
   ·
    rw[if_pos h3];exact⟨fun L=> .bW _ _,h,id,fun h=>absurd (show(9:Int)=7 from h) (by decide),fun h=>absurd (show(9:Int)=0 from h) (by decide),fun _=> .inr (.inl rfl)⟩
   ·
    rw[if_neg h3]
    refine⟨fun L=>Zy (by omega),h.erase bA (by omega) (by omega) (by omega),fun g=>g.erase h.bears bA (by omega),Nq,fun he=>⟨by simp only;omega,?_⟩,fun he=> ?_⟩
    ·
     obtain⟨e1,e2,e3,e4,e5⟩:=Fb he
     have hh:=(nv.1 e1).1
     have hd:=fa hk
     show 0<eH (df c (1 -last)) (1 -last)
     rw[e5,eH,gA,oW hh,e4,e3]
     simp only[Bool.false_eq_true,if_false];omega
    ·
     simp only at he
     rcases Fl c (1 -last)with q|q|q|q
     ·
      exact absurd q he
     ·
      refine .inr (.inr ⟨q,?_⟩)
      simp only
      have ja:=ZO q
      have ZQ:df c (1 -last)=c:=by rw[df,q,gm,if_neg (by decide),eF,if_neg (by rw[ja];simp)]
      rw[ZQ]
      have hh:fy c (1 -last)=true:=fA.2 ⟨hk,by omega,by omega⟩
      by_cases ho:c.ops<cK
      ·
       right
       refine⟨1 -last,?_⟩
       apply Classical.byContradiction
       intro hw
       rw[nv.2 ⟨hh,ho,by omega⟩]at ja;cases ja
      ·
       exact .inl (by omega)
     ·
      exact .inl q
     ·
      exact .inr (.inl q)
theorem ZR{c:CV}{b:Int}{p:List UInt8}(hh:fy c b=true)(hf:0<eH c b)(hl:(p.length:Int)=c.size)(h:bw c b p=1):cK≤c.ops∧dK c b (ak c b).used p=c:=by
 have ja:lC c b (ak c b).used p=false:=by
  cases ho:lC c b (ak c b).used p with
  |false=>rfl
  |true=>
   rw[bw,jq,if_pos ho]at h
   split at h
   ·
    cases h
   ·
    split at h
    ·
     cases h
    ·
     split at h
     ·
      rw[jY]at h;split at h<;>cases h
     ·
      cases h
 have hu:=(eA.1 (oR hh)).2.1
 have hb:=BL hf
 rw[eH,if_neg (by rw[hb];simp)]at hf
 refine⟨?_,by rw[dK,if_neg (by rw[ja];simp)]⟩
 apply Classical.byContradiction
 intro hw
 rw[iH.2 ⟨hh,hu,by omega,hl,by omega⟩]at ja;cases ja
theorem qk.prog{g:Nat}{a:List Int}{c:CV}{b:Int}{p:List UInt8}(h:qk g a c)(hf:c.aX=[])(he:bw c b p≠0):qk g a (bH c b p):=by
 intro k k0 k1 e
 rw[bH,C6,NN hf he]at e
 rw[bH,(BF _ _ _).ae,NN hf he]at k1
 exact h k k0 k1 e
theorem NO{p:List UInt8}: ∀(l:List (List UInt8)) (m:Nat),m≤l.foldl (fun m p=>max m (j8 p)) m∧(p∈l→j8 p≤l.foldl (fun m p=>max m (j8 p)) m)
 |[],m=>⟨Nat.le_refl _,fun h=>by cases h⟩
 |q::r,m=>by
  obtain⟨h1,h2⟩:=NO (p:=p) r (max m (j8 q))
  refine⟨by rw[List.foldl_cons];omega,fun h=> ?_⟩
  rw[List.foldl_cons]
  rcases List.mem_cons.1 h with rfl|h
  ·
   omega
  ·
   exact h2 h
theorem Ha{M:Nat}: ∀(l:List (List UInt8)) (m:Nat),m≤M→(∀p∈l,j8 p≤M)→l.foldl (fun m p=>max m (j8 p)) m≤M
 |[],m,h,_=>h
 |q::r,m,h,hp=>by
  rw[List.foldl_cons]
  exact Ha r _ (by have:=hp q List.mem_cons_self;omega) fun p gR=>hp p (List.mem_cons_of_mem _ gR)
theorem Wv.last{g:Nat}{at_ a:List Int}{last:Int}{c:CV}(h:Wv g at_ last a c)(hp:Pl c a){b:Int}(hb:b=0∨b=1){k0:Int}(q0:0≤k0)(q1:k0/c.ae=b)(q2:bE (bR c k0)=(⟨g+1,a⟩,0)):
  dx ⟨c,a,g+1,if j9 c 1=g+1 then 1 else b⟩:=by
 have ka:2≤c.ae:=(gk.1 h.bears).2.2.1
 obtain⟨l0,l1⟩:=zS h.bears
 have bt: ∀k:Int,k/c.ae<2→k<2*c.ae:=fun k hk=>by
  apply Classical.byContradiction
  intro hn
  have:2≤k/c.ae:=by
   have:=Int.ediv_le_ediv (show 0<c.ae by omega) (show 2*c.ae≤k by omega)
   rwa [Int.mul_ediv_cancel _ (by omega)]at this
  omega
 obtain⟨i,hR,i0,i1,i2,i3⟩:=h.NL hp q0 (bt k0 (by omega)) q2
 have Gj:i/c.ae=0∨i/c.ae=1:=by
  have h1:=Int.ediv_nonneg i0 (show 0≤c.ae by omega)
  have h2:i/c.ae<2:=Int.ediv_lt_of_lt_mul (by omega) i1
  omega
 have hle: ∀k,0≤k→k<2*c.ae→j8 (bR c k)≤g+1:=fun k k0 k1=>by
  rw[j8]
  split
  ·
   rename_i hv
   obtain⟨j,_,_,_,_,_,j5⟩:=h.xi
   rcases j5 k k0 k1 hv with r|r|r
   ·
    omega
   ·
    omega
   ·
    rw[r.1];exact Nat.le_refl _
  ·
   omega
 have NP: ∀p∈(ak c 1).ae,∃k,c.ae≤k∧k<2*c.ae∧bR c k=p:=fun p tJ=>by
  obtain⟨j,hj⟩:=List.getElem?_of_mem tJ
  have jf:=(List.getElem?_eq_some_iff.1 hj).1
  refine⟨c.ae+j,by omega,by omega,?_⟩
  have:=rk h.bears (k:=(ak c 0).ae.length+j) (by omega)
  rw[show(((ak c 0).ae.length+j:Nat):Int)=c.ae+j by omega]at this
  rw[←this]
  simp only[List.getD]
  rw[List.getElem?_append_right (by omega),Nat.add_sub_cancel_left,hj];rfl
 have ZS:i/c.ae=(if j9 c 1=g+1 then 1 else b):=by
  rcases Gj with e|e
  ·
   have ft:i<c.ae:=by
    apply Classical.byContradiction
    intro hn
    have:=Int.ediv_le_ediv (show 0<c.ae by omega) (show c.ae≤i by omega)
    rw[Int.ediv_self (by omega)]at this;omega
   have hg:j9 c 1≤g:=by
    refine Ha _ 0 (Nat.zero_le _) fun p tJ=> ?_
    obtain⟨k,qY,nS,rfl⟩:=NP p tJ
    rw[j8]
    split
    ·
     rename_i hv
     obtain⟨j,_,_,_,_,_,j5⟩:=h.xi
     rcases j5 k (by omega) nS hv with r|r|r
     ·
      omega
     ·
      omega
     ·
      have:=i3 k nS r.1;omega
    ·
     omega
   rw[if_neg (by omega),e]
   have aiU:=i3 k0 (bt k0 (by omega)) q2
   have:k0/c.ae=0:=Int.ediv_eq_zero_of_lt q0 (by omega)
   omega
  ·
   have ft:c.ae≤i:=by
    apply Classical.byContradiction
    intro hn
    have:i/c.ae=0:=Int.ediv_eq_zero_of_lt i0 (by omega)
    omega
   have hg:j9 c 1=g+1:=by
    have h1:j9 c 1≤g+1:=Ha _ 0 (Nat.zero_le _) fun p tJ=>by
     obtain⟨k,qY,nS,rfl⟩:=NP p tJ
     exact hle k (by omega) nS
    have h2:bR c i∈(ak c 1).ae:=by
     rw[bR,e]
     have l5:0≤i%c.ae:=Int.emod_nonneg _ (by omega)
     have nE:i%c.ae<c.ae:=Int.emod_lt_of_pos _ (by omega)
     have hj:(i%c.ae).toNat<(ak c 1).ae.length:=by omega
     simp only[List.getD]
     rw[List.getElem?_eq_getElem hj];exact List.getElem_mem hj
    have h3:=(NO (p:=bR c i) (ak c 1).ae 0).2 h2
    have h4:j8 (bR c i)=g+1:=by rw[j8,if_pos (by rw[i2]),i2]
    have h5:j9 c 1=(ak c 1).ae.foldl (fun m p=>max m (j8 p)) 0:=rfl
    omega
   rw[if_pos hg,e]
 rw[←ZS];exact hR
theorem NQ: ∀(n:Nat) {x:WV} {a:List Int} {b:List UInt8},cd x→Wv x.v.gen x.v.at_ x.v.last a x.v.ag→Pl x.v.ag a→fq x.v.ag→bE b=(⟨x.v.gen+1,a⟩,0)→(b.length:Int)=x.v.ag.size→(cK -x.v.ag.ops).toNat<n→
  (∀L,Kd L x.v.ag (fc n x a b).1.v.ag)∧((fc n x a b).2=0→dx (fc n x a b).1.v∧(fc n x a b).1.v.at_=a)∧
  ((fc n x a b).2≠0→(fc n x a b).1=x.on (fc n x a b).1.v.ag∧Wv x.v.gen x.v.at_ x.v.last a (fc n x a b).1.v.ag∧(x.v.ag.aX=[]→qk x.v.gen a x.v.ag→qk x.v.gen a (fc n x a b).1.v.ag)∧
   ((fc n x a b).2=7∨(fc n x a b).2=9∨((fc n x a b).2=1∧zX (fc n x a b).1.v.ag)))∧((fc n x a b).2=7→(fc n x a b).1.v.ag.off=true)
 |0,x,a,b,_,_,_,_,_,_,hn=>by omega
 |n+1,x,a,b,hx,hw,ha,bA,hr,du,hn=>by
  have hl:=hx.last
  obtain⟨k1,k2,k3,k4,k5,k6⟩:=ZP hw bA hl
  obtain⟨o1,o2,o3,o4⟩:=wQ (last:=x.v.last) hx.ag hl
  have pT:0≤x.v.last:=by omega
  rw[fc]
  by_cases h0:(aU x.v.ag x.v.last).2.2≠0
  ·
   rw[if_pos h0]
   exact⟨k1,fun h=>absurd h h0,fun _=>⟨rfl,k2,fun _ g=>k3 g,k6 h0⟩,k4⟩
  ·
   rw[if_neg h0]
   obtain⟨g1,g2⟩:=k5 (by simpa using h0)
   have ZT:fq (aU x.v.ag x.v.last).1:=bA.kd (k1 [])
   have hh:fy (aU x.v.ag x.v.last).1 (aU x.v.ag x.v.last).2.1=true:=by
    have:=(gk.1 k2.bears).2.1
    exact fA.2 ⟨o1,by omega,by omega⟩
   have nH:0≤(aU x.v.ag x.v.last).2.1:=by omega
   have eK:=k2.prog ZT nH pT hr
   have sj: ∀L,Kd L x.v.ag (bH (aU x.v.ag x.v.last).1 (aU x.v.ag x.v.last).2.1 b):=fun L=>(k1 L).trans sh
   by_cases h1:bw (aU x.v.ag x.v.last).1 (aU x.v.ag x.v.last).2.1 b=0
   ·
    rw[if_pos h1]
    refine⟨sj,fun _=>⟨?_,rfl⟩,fun h=>absurd rfl h,fun h=>absurd (show(0:Int)=7 from h) (by decide)⟩
    have hz:=od h1
    obtain⟨j1,j2,j3,j4,j5⟩:=iH.1 hz.1
    have hP:=(gD (aU x.v.ag x.v.last).1 (aU x.v.ag x.v.last).2.1 b).ae
    generalize(aU x.v.ag x.v.last).1=c at*
    generalize(aU x.v.ag x.v.last).2.1=B at*
    have hd:(B*c.ae+(ak c B).used)/c.ae=B:=by
     rw[Int.add_comm,Int.add_mul_ediv_right _ _ (by omega),Int.ediv_eq_zero_of_lt j2 j3,Int.zero_add]
    have hm:(B*c.ae+(ak c B).used)%c.ae=(ak c B).used:=by
     rw[Int.add_comm,Int.add_mul_emod_self_right,Int.emod_eq_of_lt j2 j3]
    have zn:=(eA.1 (oR j1)).1
    have mY:bR (bH c B b) (B*c.ae+(ak c B).used)=b:=by
     rw[hz.2.2.2.2]
     show(ak _ ((B*c.ae+(ak c B).used)/c.ae)).ae.getD ((B*c.ae+(ak c B).used)%c.ae).toNat []=b
     rw[hd,hm,eS,oW j1]
     simp only[List.getD]
     rw[List.getElem?_set_self (by omega),mE,hz.2.2.2.1];rfl
    have:0≤B*c.ae:=Int.mul_nonneg nH (by omega)
    exact eK.last (k0:=B*c.ae+(ak c B).used) (ha.kd (sj a) fun _ g=>g) g1 (by omega) (by rw[hP,hd]) (by rw[mY];exact hr)
   ·
    rw[if_neg h1]
    by_cases h9:bw (aU x.v.ag x.v.last).1 (aU x.v.ag x.v.last).2.1 b≠9
    ·
     rw[if_pos h9]
     refine⟨sj,fun h=>absurd h h1,fun _=>⟨rfl,eK,fun hf ja=>(k3 ja).prog (by rw[(k1 []).km];exact hf) h1,?_⟩,CY⟩
     rcases wS (aU x.v.ag x.v.last).1 (aU x.v.ag x.v.last).2.1 (ak (aU x.v.ag x.v.last).1 (aU x.v.ag x.v.last).2.1).used b with q|q|q|q
     ·
      exact absurd q h1
     ·
      obtain⟨t1,t2⟩:=ZR hh g2 (by rw[du,o2.size]) q
      refine .inr (.inr ⟨q, .inl ?_⟩)
      simp only[WV.on]
      rw[bH,rO,t2];exact t1
     ·
      exact .inl q
     ·
      exact absurd q h9
    ·
     rw[if_neg h9]
     have e9:bw (aU x.v.ag x.v.last).1 (aU x.v.ag x.v.last).2.1 b=9:=by simpa using h9
     have ho:=qK (BL g2) (p:=b) (.inl e9)
     have bM:=iU o1 (aU x.v.ag x.v.last).2.1 b
     have eX:=o2.trans (gD (aU x.v.ag x.v.last).1 (aU x.v.ag x.v.last).2.1 b)
     have hle:=pZ bM
     have dO:=hx.on bM eX
     obtain⟨t1,t2,t3,t4⟩:=NQ n (x:=x.on (bH (aU x.v.ag x.v.last).1 (aU x.v.ag x.v.last).2.1 b)) (a:=a) (b:=b) dO eK (ha.kd (sj a) fun _ g=>g) (bA.kd (sj [])) hr (by rw[du];exact eX.size.symm) (by simp only[WV.on];omega)
     refine⟨fun L=>(sj L).trans (t1 L),t2,fun h=> ?_,t4⟩
     obtain⟨s1,s2,s3,s4⟩:=t3 h
     refine⟨by rw[s1,KK];rfl,s2,fun hf ja=>s3 (by rw[←hf];exact(sj []).km) ((k3 ja).prog (by rw[(k1 []).km];exact hf) h1),s4⟩
structure Sf(x:WV)(bs:List (List UInt8))(y:WV)(e:Int):Prop where
 kd:Kd [] x.v.ag y.v.ag
 len:y.v.at_.length=x.v.at_.length
 bh:e=0→dx y.v∧ct y.v=bs
 err:e≠0→(e=7∨e=9∨(e=1∧zX y.v.ag))∨(dx y.v∧ct y.v=ct x.v)
 xJ:e≠0→x.v.ag.aX=[]→dx y.v∧ct y.v=ct x.v
 any: ∃u:VV,dx u∧u.ag=y.v.ag∧u.at_.length=x.v.at_.length∧(ct u=ct x.v∨ct u=bs)
 off:e=7→y.v.ag.off=true
theorem NR{v:VV}{c:CV}(hp:Pl v.ag v.at_)(k:Kd v.at_ v.ag c):ct {v with ag:=c}=ct v:=C0 hp k fun _ h=>h
theorem Sf.data{x:WV}(h:dx x.v){c:CV}(k:Kp x.v.at_ x.v.ag c){e:Int}{bs:List (List UInt8)}(GJ:e=0→bs=ct x.v)(ho:e=7→c.off=true):Sf x bs (x.on c) e:=by
 have h2:dx (x.on c).v∧ct (x.on c).v=ct x.v:=⟨h.kp k,NR h.pl k.toKd⟩
 exact⟨k.toKd.sub fun _ h=>absurd h List.not_mem_nil,rfl,fun g=>⟨h2.1,by rw[GJ g];exact h2.2⟩,fun _=> .inr h2,fun _ _=>h2,⟨_,h2.1,rfl,rfl, .inl h2.2⟩,ho⟩
theorem Sf.trans{x y z:WV}{bs:List (List UInt8)}{e:Int}(h:Sf x (ct x.v) y 0)(g:Sf y bs z e):Sf x bs z e:=by
 have hb:=(h.bh rfl).2
 refine⟨h.kd.trans g.kd,g.len.trans h.len,g.bh,fun he=> ?_,fun he hf=> ?_,?_,g.off⟩
 ·
  rw[←hb];exact g.err he
 ·
  rw[←hb];exact g.xJ he (by rw[h.kd.km];exact hf)
 ·
  rw[←hb,←h.len];exact g.any
theorem Hb{x:WV}{a:List Int}(hx:cd x)(h:dx x.v)(bA:fq x.v.ag)(ha:Pl x.v.ag a)(fx:a.length=x.v.at_.length):Sf x (a.map (dX x.v.ag)) (dV x a).1 (dV x a).2∧((dV x a).2=0→(dV x a).1.v.at_=a):=by
 rw[dV]
 by_cases h0:(cZ ⟨x.v.gen+1,a⟩ x.v.ag.size).2≠0
 ·
  rw[if_pos h0]
  refine⟨?_,fun g=>absurd g h0⟩
  have:=Sf.data (x:=x) h (.bW _ _) (e:=(cZ ⟨x.v.gen+1,a⟩ x.v.ag.size).2) (bs:=a.map (dX x.v.ag)) (fun g=>absurd g h0) (fun g=>by
   rw[cZ]at g
   split at g
   ·
    rcases wT ⟨2,max 0 ((a.length:Int) -1),x.v.gen+1,gh a⟩ x.v.ag.size with q|q
    ·
     rw[q]at g;cases g
    ·
     rw[q]at g;cases g
   ·
    cases g)
  rw[Fe]at this;exact this
 ·
  rw[if_neg h0]
  have hm:=Zt (by simpa using h0)
  obtain⟨t1,t2,t3,t4⟩:=NQ ((cK -x.v.ag.ops).toNat+1) (b:=(cZ ⟨x.v.gen+1,a⟩ x.v.ag.size).1) hx (h.wv a) ha bA (Zr hm) (Zs hm) (by omega)
  generalize fc ((cK -x.v.ag.ops).toNat+1) x a (cZ ⟨x.v.gen+1,a⟩ x.v.ag.size).1=W at*
  have rf:ct ⟨W.1.v.ag,a,x.v.gen+1,0⟩=a.map (dX x.v.ag):=C0 ha (t1 a) fun _ g=>g
  have vw:ct ⟨W.1.v.ag,x.v.at_,x.v.gen,x.v.last⟩=ct x.v:=NR h.pl (t1 x.v.at_)
  have dZ:=h.pl.kd (t1 x.v.at_) fun _ g=>g
  have oo:=ha.kd (t1 a) fun _ g=>g
  have ZU:qk x.v.gen a x.v.ag:=fun k k0 k1 e=>by
   have:=(NH h.bears h.roots).2 k k0 k1 (by rw[e])
   rw[e,h.gen]at this
   simp only at this;omega
  refine⟨⟨t1 [],?_,fun g=> ?_,fun g=> ?_,fun g hf=> ?_,?_,t4⟩,fun g=>(t2 g).2⟩
  ·
   by_cases g:W.2=0
   ·
    rw[(t2 g).2,fx]
   ·
    rw[(t3 g).1];rfl
  ·
   obtain⟨q1,q2⟩:=t2 g
   refine⟨q1,?_⟩
   show W.1.v.at_.map (dX W.1.v.ag)=_
   rw[q2];exact rf
  ·
   exact .inl (t3 g).2.2.2
  ·
   obtain⟨q1,q2,q3,_⟩:=t3 g
   have:=q2.NJ dZ (q3 hf ZU)
   rw[q1]
   exact⟨this,vw⟩
  ·
   by_cases g:W.2=0
   ·
    obtain⟨q1,q2⟩:=t2 g
    refine⟨W.1.v,q1,rfl,by rw[q2,fx], .inr ?_⟩
    show W.1.v.at_.map (dX W.1.v.ag)=_
    rw[q2];exact rf
   ·
    obtain⟨q1,q2,_⟩:=t3 g
    obtain⟨u,hu,hc,C7⟩:=q2.some dZ oo
    rcases C7 with rfl|⟨e1,e2⟩
    ·
     exact⟨_,hu,rfl,rfl, .inl vw⟩
    ·
     refine⟨u,hu,hc,by rw[e1,fx], .inr ?_⟩
     show u.at_.map (dX u.ag)=_
     rw[e1,hc];exact rf
end Go.Kb
