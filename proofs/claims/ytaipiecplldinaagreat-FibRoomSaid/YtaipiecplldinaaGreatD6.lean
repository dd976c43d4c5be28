/- Part of a proof. -/
import Derived.Test.YtaipiecplldinaaGreatD5
import Derived.Test.YtaipiecplldinaaGreatD3
import Derived.Test.YtaipiecplldinaaGreatD4
import Derived.Test.YtaipiecplldinaaGreatD1
import Derived.Test.YtaipiecplldinaaGreatD2
import Derived.Lib.ReflectliteSwap
import Derived.Laws.Externs
set_option maxRecDepth 20000
set_option linter.unusedSimpArgs false
set_option linter.unusedVariables false
namespace Go.Proofs.YtaipiecplldinaaGreat
open Go.aC Go.Kb
instance (i:Int)(s:Sv):yn Tryz.prog 102 [(0, .int .i64 i),(1,s.val)] (.agg #[.int .i64 i,s.val]):=⟨fun w=>by
 obtain⟨n,b,o,l,c⟩:=s
 cases n<;>kernel_rfl⟩
theorem XT(w:World)(s:Sl (Sl UInt8))(i:Nat)(hs:Deep.aY (hp w) s):Calls Tryz.prog 114 #[s.sv.val, .int .i64 (i:Nat)] w fun e w'=>e= .returned (((pW s i).sv).val)∧Mem w [] w':=by
 have ve:cg w s:=⟨hs⟩
 refine ba (args:=[_,_]) Tryz.func114 rfl Tryz.ntmps114 rfl ?_
 change Cw _ _ _ _ _ [(0,s.sv.val),(1, .int .i64 (i:Nat))] []
 refine aO ?_
 refine aZ ?_
 refine ag (bl rfl) ?_
 refine aX ?_
 refine aN ?_
 refine aO ?_
 refine aO ?_
 refine aZ ?_
 refine ag (aD rfl) ?_
 refine ag (aD rfl) ?_
 refine ag (lg rfl) ?_
 refine ag (cx rfl rfl rfl) ?_
 refine aX ?_
 refine aN ?_
 refine au rfl (fun h0=> ?_) (fun h0=> ?_)
 ·
  try simp only[Z0,Z1,Z2,Z3,Z4,Z5,Z6,Z7,Z8,Z9]at h0
  refine aO ?_
  refine aZ ?_
  refine ag (bl rfl) ?_
  refine aX ?_
  refine aN ?_
  refine eC ?_
  refine ff ?_
  refine aq (.inl rfl) (aI rfl (ak rfl)) (fun w1 hw=> ?_)
  exact⟨by rw[A2 (by omega)];rfl,ah.mem hw⟩
 ·
  try simp only[Z0,Z1,Z2,Z3,Z4,Z5,Z6,Z7,Z8,Z9]at h0
  refine fT ?_
  refine aN ?_
  refine aO ?_
  refine aZ ?_
  refine ag (aD rfl) ?_
  refine ag (aD rfl) ?_
  obtain⟨u,hu⟩:=get_some (xs:=s.xs) (i:=i) (by omega)
  refine ag (bg rfl rfl i rfl (by omega)) ?_
  refine ag (bL (j:=0) rfl i hu rfl (by decide)) ?_
  have aip:Mb u _:=⟨List.mem_of_getElem? hu⟩
  refine ag (bl rfl) ?_
  refine aX ?_
  refine aN ?_
  refine eC ?_
  refine aq (.inl rfl) (aI rfl (ak rfl)) (fun w1 hw=> ?_)
  exact⟨by rw[A1 hu],ah.mem hw⟩
instance aiq{w0:World}{L:List ai}{s:Sl (Sl UInt8)}{i:Nat}[hs:aU w0 L s]:cB Tryz.prog 114 w0 L [s.sv.val, .int .i64 (i:Nat)] (((pW s i).sv).val) (True):=⟨fun hp w hw=>XT w s i (hs.h w hw)⟩
theorem XU(w:World)(x:Sv)(xs:List UInt8)(y:Sv)(ys:List UInt8)(hx:bQ aM 1 (hp w) x xs)(hy:bQ aM 1 (hp w) y ys):Calls Tryz.prog 115 #[x.val,y.val] w fun e w'=>e= .returned (.bool (decide (xs=ys)))∧Mem w [] w':=by
 have tK:Gv w x aM 1 xs:=⟨hx⟩
 have Gk:Gv w y aM 1 ys:=⟨hy⟩
 refine ba (args:=[_,_]) Tryz.func115 rfl Tryz.ntmps115 rfl ?_
 change Cw _ _ _ _ _ [(0,x.val),(1,y.val)] []
 refine aO ?_
 refine aZ ?_
 refine ag (bl rfl) ?_
 refine aX ?_
 refine aN ?_
 refine aO ?_
 refine aZ ?_
 refine ag (aD rfl) ?_
 refine ag (AZ Tryz.underlying38 Tryz.underlying5 Tryz.underlying9 rfl) ?_
 refine ag (aD rfl) ?_
 refine ag (AZ Tryz.underlying38 Tryz.underlying5 Tryz.underlying9 rfl) ?_
 refine ag (Qm rfl rfl) ?_
 refine ag (bl rfl) ?_
 refine aX ?_
 refine aN ?_
 refine eC ?_
 refine aq (.inl rfl) (aI rfl (ak rfl)) (fun w1 hw=> ?_)
 exact⟨congrArg (fun b=>Ending.returned (Value.bool b)) (rfl),ah.mem hw⟩
instance air{w0:World}{L:List ai}{x:Sv}{xs:List UInt8}{y:Sv}{ys:List UInt8}[hx:c0 w0 L aM 1 x xs][hy:c0 w0 L aM 1 y ys]:cB Tryz.prog 115 w0 L [x.val,y.val] (.bool (decide (xs=ys))) (True):=⟨fun hp w hw=>XU w x xs y ys (hx.h w hw) (hy.h w hw)⟩
theorem XV(w:World)(x:Sv)(xs:List UInt8)(hx:bQ aM 1 (hp w) x xs)(bb:xs.length≤140737488355328):Calls Tryz.prog 110 #[x.val] w fun e w'=> ∃zz:Sv,e= .returned (zz.val)∧(True)∧Mem w [own aM 1 zz xs] w':=by
 have tK:Gv w x aM 1 xs:=⟨hx⟩
 refine ba (args:=[_]) Tryz.func110 rfl Tryz.ntmps110 rfl ?_
 change Cw _ _ _ _ _ [(0,x.val)] []
 refine aO ?_
 refine aZ ?_
 refine ag (bl rfl) ?_
 refine aX ?_
 refine aN ?_
 refine aO ?_
 refine aO ?_
 refine aZ ?_
 refine ag (aD rfl) ?_
 refine ag (rX Tryz.underlying38 rfl) ?_
 refine aX ?_
 refine aN ?_
 refine au rfl (fun h0=> ?_) (fun h0=> ?_)
 ·
  try simp only[Z0,Z1,Z2,Z3,Z4,Z5,Z6,Z7,Z8,Z9]at h0
  have e0:xs=[]:=List.length_eq_zero_iff.1 (by have:=hx.ok.nil h0;have:=hx.len;omega)
  refine aO ?_
  refine aZ ?_
  refine ag (bl rfl) ?_
  refine aX ?_
  refine aN ?_
  refine eC ?_
  refine ff ?_
  refine aq (.inl rfl) (aI rfl (ak rfl)) (fun w1 hw=> ?_)
  exact⟨Sv.none,rfl,trivial,by rw[e0];exact(ah.mem hw:Mem w [] _).dP aM 1⟩
 ·
  try simp only[Z0,Z1,Z2,Z3,Z4,Z5,Z6,Z7,Z8,Z9]at h0
  refine fT ?_
  refine aN ?_
  refine aO ?_
  refine aZ ?_
  refine tc aM fun b5=> ?_
  refine ag (aD rfl) ?_
  refine mg (s:=⟨false,b5,0,0,0,none⟩) (ys:=xs) rfl rfl (by decide) (fun w hw=>kN (s:=x) Tryz.underlying38 (by decide) ((inferInstance:Hd _ _ x aM 1 xs).h w hw)) (by simp only[List.length_append,List.length_cons,List.length_nil];omega) (by simp only[List.length_append,List.length_cons,List.length_nil];omega) fun s7 vf tF=> ?_
  refine ag (bl rfl) ?_
  refine aX ?_
  refine aN ?_
  refine eC ?_
  refine aq (.inl rfl) (aI rfl (ak rfl)) (fun w1 hw=> ?_)
  exact⟨s7,rfl,trivial,by simpa using hw⟩
instance ais{w0:World}{L:List ai}{x:Sv}{xs:List UInt8}[hx:c0 w0 L aM 1 x xs]:cl Tryz.prog 110 w0 L [x.val] (Sv) (fun zz=>zz.val) (fun zz=>own aM 1 zz xs::L) (fun zz=>True) (xs.length≤140737488355328):=⟨fun hp w hw=>(XV w x xs (hx.h w hw) hp).mono fun e w' ⟨x,h1,h2,h3⟩=>⟨x,h1,h2,hw.call h3⟩⟩
theorem XW(w:World)(a:Sl (Sl UInt8))(b:Sl (Sl UInt8))(ha:Deep.aY (hp w) a)(hb:Deep.aY (hp w) b)(bb:a.xs.length≤1000000∧b.xs.length≤1000000∧ ∀x∈b.xs,x.xs.length≤140737488355328):Calls Tryz.prog 77 #[a.sv.val,b.sv.val] w fun e w'=> ∃zz:Sl It,e= .returned (zz.sv.val)∧(uJ zz=eu (lx a) (lx b))∧Mem w [Deep.cd zz] w':=by
 have xh:cg w a:=⟨ha⟩
 have vh:cg w b:=⟨hb⟩
 obtain⟨oH,sm,wT⟩:=bb
 refine ba (args:=[_,_]) Tryz.func77 rfl Tryz.ntmps77 rfl ?_
 change Cw _ _ _ _ _ [(0,a.sv.val),(1,b.sv.val)] []
 refine aO ?_
 refine aZ ?_
 refine ag (bl rfl) ?_
 refine aX ?_
 refine aN ?_
 refine aO ?_
 refine aZ ?_
 refine ag (bl rfl) ?_
 refine aX ?_
 refine aN ?_
 refine aO ?_
 refine aO ?_
 refine aZ ?_
 refine ag (aD rfl) ?_
 refine ag (lg rfl) ?_
 refine ag (aD rfl) ?_
 refine ag (lg rfl) ?_
 refine ag (uv rfl rfl) ?_
 refine ag (aD rfl) ?_
 refine aX ?_
 refine aN ?_
 refine lI ?_
 refine ca (X:=Nat×Sl It) (fun zz=>[(13, .int .i64 (zz.1:Nat)),(5,zz.2.sv.val),(0,a.sv.val),(1,b.sv.val),(12, .int .i64 (max (a.xs.length:Int) (b.xs.length:Int)))]) (fun zz=>[Deep.cd zz.2]) (fun zz=>zz.1≤max a.xs.length b.xs.length∧uJ zz.2=mz (lx a) (lx b) zz.1) (fun zz=>max a.xs.length b.xs.length -zz.1) (0,⟨Sv.none,[]⟩) ⟨by first|omega|(simp only[];omega),rfl⟩ (Sub.cons rfl (Sub.cons rfl (Sub.cons rfl (Sub.cons rfl (Sub.cons rfl (Sub.nil _)))))) (fun w hw=>Mem.A0 (enc:=nB) (c:=2) hw) ?_
 rintro⟨i,l⟩ ⟨bh,aF⟩
 dsimp only
 refine aO ?_
 refine aZ ?_
 refine ag (cx rfl rfl rfl) ?_
 refine aX ?_
 refine aN ?_
 refine aO ?_
 refine au rfl (fun h0=> ?_) (fun h0=> ?_)
 ·
  try simp only[Z0,Z1,Z2,Z3,Z4,Z5,Z6,Z7,Z8,Z9]at h0
  refine fT ?_
  refine aN ?_
  refine aO ?_
  refine lI ?_
  refine aO ?_
  refine aZ ?_
  refine ag (aD rfl) ?_
  refine ag (bl rfl) ?_
  refine aX ?_
  refine aN ?_
  refine aO ?_
  refine aZ ?_
  refine ag (aD rfl) ?_
  refine ag (aD rfl) ?_
  refine fy (cC rfl trivial) ?_
  refine ag (bl rfl) ?_
  refine aX ?_
  refine aN ?_
  refine aO ?_
  refine aZ ?_
  refine ag (aD rfl) ?_
  refine ag (aD rfl) ?_
  refine fy (cC rfl trivial) ?_
  refine ag (aD rfl) ?_
  refine fy (cC rfl trivial) ?_
  refine ag (iR rfl) ?_
  refine aX ?_
  refine aN ?_
  refine au rfl (fun h1=> ?_) (fun h1=> ?_)
  ·
   try simp only[Z0,Z1,Z2,Z3,Z4,Z5,Z6,Z7,Z8,Z9]at h1
   refine aZ ?_
   refine ag (aD rfl) ?_
   refine ag (aD rfl) ?_
   refine ag (aD rfl) ?_
   refine bq rfl (by rcases Nat.lt_or_ge i b.xs.length with h|h;exact wT _ (by rw[A1 (List.getElem?_eq_getElem h)];exact List.getElem_mem h);rw[A2 h];exact Nat.zero_le _) fun du mG=> ?_
   refine ag (sS rfl) ?_
   refine pc (enc:=nB) (vals:=[_]) [(⟨((i:Nat):Int),⟨du,((pW b i).xs)⟩⟩:It)] rfl rfl rfl (by decide) (by decide) fun fH=> ?_
   refine Qu (s:=⟨false,fH,0,1,1,none⟩) l [(⟨((i:Nat):Int),⟨du,((pW b i).xs)⟩⟩:It)] rfl rfl (by decide) (by have:=congrArg List.length aF;have h9:=Ce (lx a) (lx b) i;simp only[uJ,List.length_map]at this;simp only[List.length_cons,List.length_nil];omega) (by have:=congrArg List.length aF;have h9:=Ce (lx a) (lx b) i;simp only[uJ,List.length_map]at this;simp only[List.length_cons,List.length_nil];omega) fun k9 XX=> ?_
   refine ag (bl rfl) ?_
   refine aX ?_
   refine o8 ?_
   refine aN ?_
   refine aZ ?_
   refine ag (pR rfl rfl (by omega)) ?_
   refine ag (aD rfl) ?_
   refine aX ?_
   exact bx (x:=(i,l)) (i+1,k9) ⟨by first|omega|(simp only[];omega),by rw[uJ,XX,List.map_append,Lh (by rw[←yC,←yC];exact h1),←aF,←yC];rfl⟩ (by simp only;omega) (Sub.cons rfl (Sub.cons rfl (Sub.cons rfl (Sub.cons rfl (Sub.cons rfl (Sub.nil _)))))) (fun w hw=>ah.mem hw)
  ·
   try simp only[Z0,Z1,Z2,Z3,Z4,Z5,Z6,Z7,Z8,Z9]at h1
   refine fT ?_
   refine o8 ?_
   refine aN ?_
   refine aZ ?_
   refine ag (pR rfl rfl (by omega)) ?_
   refine ag (aD rfl) ?_
   refine aX ?_
   exact bx (x:=(i,l)) (i+1,l) ⟨by first|omega|(simp only[];omega),by rw[Lg (by rw[←yC,←yC];exact h1)];exact aF⟩ (by simp only;omega) (Sub.cons rfl (Sub.cons rfl (Sub.cons rfl (Sub.cons rfl (Sub.cons rfl (Sub.nil _)))))) (fun w hw=>ah.mem hw)
 ·
  try simp only[Z0,Z1,Z2,Z3,Z4,Z5,Z6,Z7,Z8,Z9]at h0
  refine rU ?_
  refine l8 ?_
  refine l8 ?_
  refine rV ?_
  refine aN ?_
  refine aO ?_
  refine aZ ?_
  refine ag (aD rfl) ?_
  refine ag (bl rfl) ?_
  refine aX ?_
  refine aN ?_
  refine eC ?_
  refine aq (.inl rfl) (aI rfl (ak rfl)) (fun w1 hw=> ?_)
  exact⟨l,rfl,(by rw[aF,eu,uF,uF,show i=max a.xs.length b.xs.length by omega]),ah.mem hw⟩
instance ait{w0:World}{L:List ai}{a:Sl (Sl UInt8)}{b:Sl (Sl UInt8)}[ha:aU w0 L a][hb:aU w0 L b]:cl Tryz.prog 77 w0 L [a.sv.val,b.sv.val] (Sl It) (fun zz=>zz.sv.val) (fun zz=>Deep.cd zz::L) (fun zz=>uJ zz=eu (lx a) (lx b)) (a.xs.length≤1000000∧b.xs.length≤1000000∧ ∀x∈b.xs,x.xs.length≤140737488355328):=⟨fun hp w hw=>(XW w a b (ha.h w hw) (hb.h w hw) hp).mono fun e w' ⟨x,h1,h2,h3⟩=>⟨x,h1,h2,hw.call h3⟩⟩
open Go.aC Go.Kb
theorem XY(w:World)(b:Sv)(bs:List UInt8)(hb:bQ aM 1 (hp w) b bs)(bb:bs.length=20):Calls Tryz.prog 139 #[b.val] w fun e w'=>e= .returned (.tuple #[.agg (ay (rdv bs)), .bool (nN bs)])∧Mem w [] w':=by
 have vh:Gv w b aM 1 bs:=⟨hb⟩
 have eg: ∀(i:Nat) e,bs[i]? =some e→bs.getD i 0=e:=fun i e h=>by simp[List.getD,h]
 obtain⟨e6,MS⟩:=get_some (xs:=bs) (i:=0) (by omega)
 have zV:=eg 0 e6 MS
 refine ba (args:=[_]) Tryz.func139 rfl Tryz.ntmps139 rfl ?_
 change Cw _ _ _ _ _ [(0,b.val)] []
 refine aO ?_
 refine aZ ?_
 refine bK fun b2=> ?_
 refine ag (bl rfl) ?_
 refine aX ?_
 refine aN ?_
 refine aO ?_
 refine aZ ?_
 refine bK fun b4=> ?_
 refine aX ?_
 refine aN ?_
 refine vV (X:=Unit) (fun zz=>[(0,b.val),(2, .pointer (some ⟨b2,0,none⟩)),(4, .pointer (some ⟨b4,0,none⟩))]) (fun zz=>[ar b4 ((ay jm).setIfInBounds 0 (.int .i64 (if e6=1 then 128 else 32))) 68,ar b2 (ay jm) 68]) (fun zz=>e6≤1) ?_ ?_
 ·
  refine aO ?_
  refine aZ ?_
  refine ag (aD rfl) ?_
  refine ag (bg rfl rfl 0 rfl (by omega)) ?_
  refine ag (bL (j:=0) rfl 0 MS rfl (by decide)) ?_
  refine aX ?_
  refine aN ?_
  refine lI ?_
  refine aO ?_
  refine aZ ?_
  refine ag (cx rfl rfl rfl) ?_
  refine ag (bl rfl) ?_
  refine aX ?_
  refine aN ?_
  refine au rfl (fun h0=> ?_) (fun h0=> ?_)
  ·
   try simp only[Z0,Z1,Z2,Z3,Z4,Z5,Z6,Z7,Z8,Z9]at h0
   obtain rfl:e6=0:=UInt8.toNat_inj.1 (by simp;omega)
   refine aZ ?_
   refine ag (aH (o':=0) rfl rfl) ?_
   refine ag (aH (o':=0) rfl rfl) ?_
   refine eN rfl rfl (by simp[km]) rfl rfl ?_
   refine aX ?_
   refine o8 ?_
   exact oZ () (by decide) (Sub.cons rfl (Sub.cons rfl (Sub.cons rfl (Sub.nil _)))) (fun w hw=>hw)
  ·
   try simp only[Z0,Z1,Z2,Z3,Z4,Z5,Z6,Z7,Z8,Z9]at h0
   refine aO ?_
   refine aZ ?_
   refine ag (cx rfl rfl rfl) ?_
   refine ag (bl rfl) ?_
   refine aX ?_
   refine aN ?_
   refine au rfl (fun h1=> ?_) (fun h1=> ?_)
   ·
    try simp only[Z0,Z1,Z2,Z3,Z4,Z5,Z6,Z7,Z8,Z9]at h1
    obtain rfl:e6=1:=UInt8.toNat_inj.1 (by simp;omega)
    refine aZ ?_
    refine ag (aH (o':=0) rfl rfl) ?_
    refine ag (aH (o':=0) rfl rfl) ?_
    refine eN rfl rfl (by simp[km]) rfl rfl ?_
    refine aX ?_
    refine o8 ?_
    exact oZ () (by decide) (Sub.cons rfl (Sub.cons rfl (Sub.cons rfl (Sub.nil _)))) (fun w hw=>hw)
   ·
    try simp only[Z0,Z1,Z2,Z3,Z4,Z5,Z6,Z7,Z8,Z9]at h1
    have MT: ¬e6≤1:=fun h=>by rw[UInt8.le_iff_toNat_le]at h;simp at h;omega
    refine aO ?_
    refine aZ ?_
    refine ag (sS rfl) ?_
    refine qN rfl rfl ?_
    refine ag (bl rfl) ?_
    refine aX ?_
    refine aN ?_
    refine eC ?_
    refine mN ?_
    refine ff ?_
    refine aq (.inl rfl) (bm rfl (cc rfl) (ak rfl)) (fun w1 hw=> ?_)
    exact⟨by rw[show nN bs=false from by rw[nN,zV];exact decide_eq_false MT,show rdv bs=jm from if_neg (by rw[nN,zV];simpa using MT)],ah.mem hw⟩
 ·
  rintro⟨⟩ hJ
  refine aO ?_
  refine aZ ?_
  refine ag (aD rfl) ?_
  obtain⟨CU,MU⟩:=get_some (xs:=bs) (i:=1) (by omega)
  refine ag (bg rfl rfl 1 rfl (by omega)) ?_
  refine ag (bL (j:=0) rfl 1 MU rfl (by decide)) ?_
  have XZ:=eg 1 CU MU
  refine ag (uE rfl) ?_
  refine ag (aH (o':=0) rfl rfl) ?_
  refine ag (aH (o':=1) rfl rfl) ?_
  refine eN rfl rfl (by simp[km]) rfl rfl ?_
  refine aX ?_
  refine aN ?_
  refine aO ?_
  refine jn [5] [[],[],[],[],[],[]] [0,1,2,3,4,5] [] (fun _ hw=>ah.mem hw) (by kernel_rfl) (by kernel_rfl) ?_
  refine al rfl (aH (o':=0) rfl rfl) ?_
  refine al rfl (aH (o':=2) rfl rfl) ?_
  refine al rfl (uu rfl) ?_
  refine al rfl (aD rfl) ?_
  have Cz:Rg 2 18 bs.length:=⟨by omega⟩
  refine al rfl (AX rfl rfl rfl 2 18 rfl rfl Cz.h.1 Cz.h.2) ?_
  refine dE rfl (Rf (ys:=(bs.drop 2).take 16) rfl rfl (by simp;omega) (by simp;omega) (by simp[km];omega) rfl ⟨fun _ hw=>ah.mem hw,?_⟩)
  refine Bn ?_
  refine aN ?_
  refine aO ?_
  refine jn [11] [[],[],[],[],[],[],[],[],[],[],[],[]] [0,1,2,3,4,5,6,7,8,9,10,11] [] (fun _ hw=>ah.mem hw) (by kernel_rfl) (by kernel_rfl) ?_
  refine al rfl (aD rfl) ?_
  obtain⟨X0,MW⟩:=get_some (xs:=bs) (i:=18) (by omega)
  refine al rfl (bg rfl rfl 18 rfl (by omega)) ?_
  refine al rfl (bL (j:=0) rfl 18 MW rfl (by decide)) ?_
  have X1:=eg 18 X0 MW
  refine al rfl (uE rfl) ?_
  refine al rfl (IH rfl rfl) ?_
  refine al rfl (aD rfl) ?_
  obtain⟨zW,MX⟩:=get_some (xs:=bs) (i:=19) (by omega)
  refine al rfl (bg rfl rfl 19 rfl (by omega)) ?_
  refine al rfl (bL (j:=0) rfl 19 MX rfl (by decide)) ?_
  have X2:=eg 19 zW MX
  refine al rfl (uE rfl) ?_
  refine al rfl (II rfl rfl) ?_
  refine al rfl (aH (o':=18) rfl rfl) ?_
  refine dE rfl (wk rfl rfl (by rw[mQ (by rw[List.size_toArray,gQ];simp[km];omega)];simp[km]) rfl rfl ⟨fun _ hw=>ah.mem hw,?_⟩)
  refine Bn ?_
  refine aN ?_
  refine aO ?_
  refine qU [ar b4 (ay (oG bs)) 68,ar b2 (ay jm) 68] (fun w hw=> ?_) ?_
  ·
   rw[←TD (b:=bs) bb (if e6=1 then 128 else 32) (by rw[zV]),XZ,X1,X2];exact hw
  refine aZ ?_
  refine ag (fI rfl) ?_
  refine qN rfl rfl ?_
  refine ag (bl rfl) ?_
  refine aX ?_
  refine aN ?_
  refine eC ?_
  refine aq (.inl rfl) (bm rfl (cc rfl) (ak rfl)) (fun w1 hw=> ?_)
  exact⟨by rw[show rdv bs=oG bs from if_pos (by rw[nN,zV];exact decide_eq_true hJ),show nN bs=true from by rw[nN,zV];exact decide_eq_true hJ],ah.mem hw⟩
instance aiu{w0:World}{L:List ai}{b:Sv}{bs:List UInt8}[hb:c0 w0 L aM 1 b bs]:cB Tryz.prog 139 w0 L [b.val] (.tuple #[.agg (ay (rdv bs)), .bool (nN bs)]) (bs.length=20):=⟨fun hp w hw=>XY w b bs (hb.h w hw) hp⟩
open Go.aC Go.Kb
instance aiv{w0:World}{L:List ai}{s:Sv}{xs:List UInt8}{r:Rt}{i:Nat}{L':Sv→List ai}[q:fD L s aM 1 xs i][u: ∀s',fx L i (own aM 1 s' (xs++eJ r)) (L' s')]:cl Tryz.prog 113 w0 L [s.val, .agg (ay r)] Sv (fun s=>s.val) L' (fun _=>True) (xs.length≤1000000):=⟨fun hp w hw=>
 (XD w0 w (L.eraseIdx i) s xs r (hw.perm (nA q.h)) hp).mono fun e w' ⟨s',h1,h2,h3,h4⟩=>⟨s',h1,trivial,by
  rw[←(u s').h]
  exact h4.perm (set_perm _ L i (At.lt q.h))⟩⟩
theorem X3(w:World)(a:Sl (Sl UInt8))(ha:Deep.aY (hp w) a)(bb:a.xs.length≤1000∧ ∀x∈a.xs,x.xs.length≤100000):Calls Tryz.prog 101 #[a.sv.val] w fun e w'=> ∃zz:Sv,e= .returned (.tuple #[zz.val, .int .i64 (jP (lx a))])∧(True)∧Mem w [own ay 19 zz (jd (lx a))] w':=by
 have xh:cg w a:=⟨ha⟩
 obtain⟨oH,sm⟩:=bb
 have hl:=uF a
 refine ba (args:=[_]) Tryz.func101 rfl Tryz.ntmps101 rfl ?_
 change Cw _ _ _ _ _ [(0,a.sv.val)] []
 refine aO ?_
 refine aZ ?_
 refine ag (bl rfl) ?_
 refine ag (bl rfl) ?_
 refine aX ?_
 refine aN ?_
 refine aO ?_
 refine aZ ?_
 refine ag (bl rfl) ?_
 refine aX ?_
 refine aN ?_
 refine aO ?_
 refine aO ?_
 refine aZ ?_
 refine ag (aD rfl) ?_
 refine ag (lg rfl) ?_
 refine ag (aD rfl) ?_
 refine aX ?_
 refine aN ?_
 refine lI ?_
 refine ca (X:=Nat×Sv×List Rt) (fun zz=>[(11, .int .i64 (zz.1:Nat)),(4,zz.2.1.val),(9,a.sv.val),(10, .int .i64 (a.xs.length:Nat))]) (fun zz=>[own ay 19 zz.2.1 zz.2.2]) (fun zz=>zz.1≤a.xs.length∧gg ((lx a).take zz.1)=some zz.2.2∧zz.2.2.length≤zz.1*100000) (fun zz=>a.xs.length -zz.1) (0,Sv.none,[]) ⟨by first|omega|(simp only[];omega),rfl,by simp⟩ (Sub.cons rfl (Sub.cons rfl (Sub.cons rfl (Sub.cons rfl (Sub.nil _))))) (fun w hw=>Mem.dP ay 19 hw) ?_
 rintro⟨i,t,q⟩ ⟨bh,aF,bt⟩
 dsimp only
 simp only at bh aF bt
 refine aO ?_
 refine aZ ?_
 refine ag (cx rfl rfl rfl) ?_
 refine aX ?_
 refine aN ?_
 refine aO ?_
 refine au rfl (fun h0=> ?_) (fun h0=> ?_)
 ·
  try simp only[Z0,Z1,Z2,Z3,Z4,Z5,Z6,Z7,Z8,Z9]at h0
  refine fT ?_
  refine aN ?_
  refine aO ?_
  refine lI ?_
  refine aO ?_
  refine aZ ?_
  obtain⟨x,hx⟩:=get_some (xs:=a.xs) (i:=i) (by omega)
  refine ag (bg rfl rfl i rfl (by omega)) ?_
  refine ag (bL (j:=0) rfl i hx rfl (by decide)) ?_
  have zy:Mb x _:=⟨List.mem_of_getElem? hx⟩
  have ex:(lx a)[i]? =some x.xs:=by simp[lx,hx]
  have Cy:Mb x _:=⟨List.mem_of_getElem? hx⟩
  refine ag (bl rfl) ?_
  refine aX ?_
  refine aN ?_
  refine aO ?_
  refine aO ?_
  refine aZ ?_
  refine ag (aD rfl) ?_
  refine ag (lg rfl) ?_
  refine ag (yx (p:=x.xs.length) (q:=20) rfl rfl rfl rfl (by omega)) ?_
  refine ag (cx rfl rfl rfl) ?_
  refine aX ?_
  refine aN ?_
  refine au rfl (fun h1=> ?_) (fun h1=> ?_)
  ·
   try simp only[Z0,Z1,Z2,Z3,Z4,Z5,Z6,Z7,Z8,Z9]at h1
   have g9:gg (lx a)=none:=Le (i:=i+1) (by rw[FF ex,aF,Ld _ x.xs (Nat.le_refl _) (by omega)];rfl)
   refine aO ?_
   refine aZ ?_
   refine ag (bl rfl) ?_
   refine ag (bl rfl) ?_
   refine aX ?_
   refine aN ?_
   refine eC ?_
   refine ff ?_
   refine mN ?_
   refine ff ?_
   refine ff ?_
   refine mN ?_
   refine ff ?_
   refine aq (.inl rfl) (bm rfl (ak rfl) (ak rfl)) (fun w1 hw=> ?_)
   exact⟨Sv.none,by rw[(Cd g9).2];rfl,trivial,by rw[(Cd g9).1];exact(ah.mem hw:Mem w [] _).dP ay 19⟩
  ·
   try simp only[Z0,Z1,Z2,Z3,Z4,Z5,Z6,Z7,Z8,Z9]at h1
   refine fT ?_
   refine aN ?_
   refine lI ?_
   refine ca (X:=Sv×List UInt8×Sv×List Rt) (fun zz=>[(6,zz.1.val),(4,zz.2.2.1.val),(9,a.sv.val),(10, .int .i64 (a.xs.length:Nat)),(11, .int .i64 (i:Nat))]) (fun zz=>[own ay 19 zz.2.2.1 zz.2.2.2]) (fun zz=> ∃pre,zz.2.2.2=q++pre∧lu x.xs=(lu zz.2.1).map (pre++ ·)∧bQ aM 1 (hp w) zz.1 zz.2.1∧zz.2.1.length%20=0∧zz.2.2.2.length+zz.2.1.length≤(i+1)*100000) (fun zz=>zz.2.1.length) (x.sv,x.xs,t,q) ⟨[],by simp,by cases lu x.xs<;>rfl,(ha.2 x (List.mem_of_getElem? hx)).1,by first|omega|(simp only[];omega),by have:=sm x (List.mem_of_getElem? hx);simp only;omega⟩ (Sub.cons rfl (Sub.cons rfl (Sub.cons rfl (Sub.cons rfl (Sub.cons rfl (Sub.nil _)))))) (fun w hw=>ah.mem hw) ?_
   rintro⟨cu,cs,t2,q2⟩ ⟨pre,ic,dz,iP,lC,xG⟩
   dsimp only
   simp only at ic dz iP lC xG
   have gcu:Gv w cu aM 1 cs:=⟨iP⟩
   refine aO ?_
   refine aO ?_
   refine aZ ?_
   refine ag (aD rfl) ?_
   refine ag (lg rfl) ?_
   refine ag (cx rfl rfl rfl) ?_
   refine aX ?_
   refine aN ?_
   refine au rfl (fun h2=> ?_) (fun h2=> ?_)
   ·
    try simp only[Z0,Z1,Z2,Z3,Z4,Z5,Z6,Z7,Z8,Z9]at h2
    have X4:20≤cs.length:=by omega
    have G1:(cs.drop 0).take (20 -0)=cs.take 20:=by simp
    have ec:=FE X4
    rw[Li]at ec
    refine fT ?_
    refine aN ?_
    refine aO ?_
    refine lI ?_
    refine aO ?_
    refine aZ ?_
    refine ag (aD rfl) ?_
    have X5:Rg 0 20 cs.length:=⟨by omega⟩
    refine ag (IK rfl rfl 20 rfl X5.h.2) ?_
    refine fy (cC rfl (by simp;omega)) ?_
    refine ag (aD rfl) ?_
    refine ag (aV (v:= .agg (ay (rdv ((cs.drop 0).take (20 -0))))) rfl rfl) ?_
    refine ag (aV (v:= .bool (nN ((cs.drop 0).take (20 -0)))) rfl rfl) ?_
    refine bK fun b7=> ?_
    refine qN rfl rfl ?_
    refine ag (bl rfl) ?_
    refine aX ?_
    refine aN ?_
    refine aO ?_
    refine aO ?_
    refine aZ ?_
    refine ag (aD rfl) ?_
    refine ag (iR rfl) ?_
    refine aX ?_
    refine aN ?_
    refine au rfl (fun h3=> ?_) (fun h3=> ?_)
    ·
     try simp only[Z0,Z1,Z2,Z3,Z4,Z5,Z6,Z7,Z8,Z9]at h3
     rw[G1]at h3
     have g9:gg (lx a)=none:=Le (i:=i+1) (by rw[FF ex,aF,dz,ec,h3];rfl)
     refine aO ?_
     refine aZ ?_
     refine ag (bl rfl) ?_
     refine ag (bl rfl) ?_
     refine aX ?_
     refine aN ?_
     refine eC ?_
     refine ff ?_
     refine mN ?_
     refine ff ?_
     refine ff ?_
     refine mN ?_
     refine mN ?_
     refine ff ?_
     refine ff ?_
     refine mN ?_
     refine ff ?_
     refine aq (.inl rfl) (bm rfl (ak rfl) (ak rfl)) (fun w1 hw=> ?_)
     exact⟨Sv.none,by rw[(Cd g9).2];rfl,trivial,by rw[(Cd g9).1];exact(ah.mem hw:Mem w [] _).dP ay 19⟩
    ·
     try simp only[Z0,Z1,Z2,Z3,Z4,Z5,Z6,Z7,Z8,Z9]at h3
     rw[G1]at h3
     rw[h3]at ec
     simp only[if_true,Option.bind_some]at ec
     have X6:rdv ((cs.drop 0).take (20 -0))=oG (cs.take 20):=by rw[G1,rdv,if_pos h3]
     refine fT ?_
     refine aN ?_
     refine aZ ?_
     refine ag (aD rfl) ?_
     refine ag (fI rfl) ?_
     refine pc (enc:=ay) (vals:=[_]) [(rdv ((cs.drop 0).take (20 -0)))] rfl rfl rfl (by decide) (by decide) fun zR=> ?_
     refine mg (s:=t2) (ys:=[(rdv ((cs.drop 0).take (20 -0)))]) rfl rfl (by decide) (fun w hw=>kN (s:=⟨false,zR,0,1,1,none⟩) Tryz.underlying52 (by decide) ((inferInstance:Hd _ _ ⟨false,zR,0,1,1,none⟩ ay 19 [(rdv ((cs.drop 0).take (20 -0)))]).h w hw)) (by simp only[List.length_cons,List.length_nil];omega) (by simp only[List.length_cons,List.length_nil];omega) fun X7 aiw aix=> ?_
     refine ag (bl rfl) ?_
     refine aX ?_
     refine o8 ?_
     refine aN ?_
     refine aZ ?_
     refine ag (aD rfl) ?_
     have X8:Rg 20 cs.length cs.length:=⟨by omega⟩
     refine ag (AY rfl rfl 20 rfl X8.h.1) ?_
     refine ag (bl rfl) ?_
     refine aX ?_
     exact bx (x:=(cu,cs,t2,q2)) (_,cs.drop 20,X7,q2++[oG (cs.take 20)]) ⟨pre++[oG (cs.take 20)],by simp[ic],by rw[dz,ec];cases lu (cs.drop 20)<;>simp,by have:=iP.sub (lo:=20) (hi:=cs.length) (by first|omega|(simp only[];omega)) (Nat.le_refl _);rwa [List.take_of_length_le (by rw[List.length_drop];omega)]at this,by simp only[List.length_drop];omega,by simp only[List.length_append,List.length_drop,List.length_cons,List.length_nil];omega⟩ (by simp only[List.length_drop];omega) (Sub.cons rfl (Sub.cons rfl (Sub.cons rfl (Sub.cons rfl (Sub.cons rfl (Sub.nil _)))))) (fun w hw=>by rw[X6]at hw;exact ah.mem hw)
   ·
    try simp only[Z0,Z1,Z2,Z3,Z4,Z5,Z6,Z7,Z8,Z9]at h2
    refine rU ?_
    refine l8 ?_
    refine l8 ?_
    refine rV ?_
    refine o8 ?_
    refine aN ?_
    refine aZ ?_
    refine ag (pR rfl rfl (by omega)) ?_
    refine ag (aD rfl) ?_
    refine aX ?_
    exact bx (x:=(i,t,q)) (i+1,t2,q2) ⟨by first|omega|(simp only[];omega),by rw[FF ex,aF,Option.bind_some,dz,show cs=[]from List.length_eq_zero_iff.1 (by first|omega|(simp only[];omega)),Lc];simp[ic],by simp only;omega⟩ (by simp only;omega) (Sub.cons rfl (Sub.cons rfl (Sub.cons rfl (Sub.cons rfl (Sub.nil _))))) (fun w hw=>ah.mem hw)
 ·
  try simp only[Z0,Z1,Z2,Z3,Z4,Z5,Z6,Z7,Z8,Z9]at h0
  refine rU ?_
  refine l8 ?_
  refine l8 ?_
  refine rV ?_
  refine aN ?_
  refine aO ?_
  refine aO ?_
  have dD:gg (lx a)=some q:=by rw[←aF,List.take_of_length_le (by omega)]
  refine aZ ?_
  refine ag (aD rfl) ?_
  refine fy (cC rfl trivial) ?_
  refine ag (iR rfl) ?_
  refine aX ?_
  refine aN ?_
  refine au rfl (fun h4=> ?_) (fun h4=> ?_)
  ·
   try simp only[Z0,Z1,Z2,Z3,Z4,Z5,Z6,Z7,Z8,Z9]at h4
   refine aO ?_
   refine aZ ?_
   refine ag (bl rfl) ?_
   refine ag (bl rfl) ?_
   refine aX ?_
   refine aN ?_
   refine eC ?_
   refine ff ?_
   refine aq (.inl rfl) (bm rfl (ak rfl) (ak rfl)) (fun w1 hw=> ?_)
   exact⟨Sv.none,by rw[(Lf dD h4).2];rfl,trivial,by rw[(Lf dD h4).1];exact(ah.mem hw:Mem w [] _).dP ay 19⟩
  ·
   try simp only[Z0,Z1,Z2,Z3,Z4,Z5,Z6,Z7,Z8,Z9]at h4
   refine fT ?_
   refine aN ?_
   refine aO ?_
   refine aZ ?_
   refine ag (aD rfl) ?_
   refine ag (bl rfl) ?_
   refine ag (bl rfl) ?_
   refine aX ?_
   refine aN ?_
   refine eC ?_
   refine aq (.inl rfl) (bm rfl (ak rfl) (ak rfl)) (fun w1 hw=> ?_)
   exact⟨t,by rw[(FG dD h4).2],trivial,by rw[(FG dD h4).1];exact hw⟩
instance X9{w0:World}{L:List ai}{a:Sl (Sl UInt8)}[ha:aU w0 L a]:cl Tryz.prog 101 w0 L [a.sv.val] (Sv) (fun zz=> .tuple #[zz.val, .int .i64 (jP (lx a))]) (fun zz=>own ay 19 zz (jd (lx a))::L) (fun zz=>True) (a.xs.length≤1000∧ ∀x∈a.xs,x.xs.length≤100000):=⟨fun hp w hw=>(X3 w a (ha.h w hw) hp).mono fun e w' ⟨x,h1,h2,h3⟩=>⟨x,h1,h2,hw.call h3⟩⟩
open Go.aC Go.Kb
open Go.aC Go.Kb
theorem Ya(w:World)(t:Sv)(ts:List Rt)(ids:Int)(room:Int)(ht:bQ ay 19 (hp w) t ts):Calls Tryz.prog 76 #[t.val, .int .i64 ids, .int .i64 room] w fun e w'=> ∃zz:Sl (Sl UInt8),e= .returned (.tuple #[zz.sv.val, .int .i64 (jc ts ids room)])∧(lx zz=jO ts ids room)∧Mem w [Deep.cd zz] w':=by
 have CA:Gv w t ay 19 ts:=⟨ht⟩
 refine ba (args:=[_,_,_]) Tryz.func76 rfl Tryz.ntmps76 rfl ?_
 change Cw _ _ _ _ _ [(0,t.val),(1, .int .i64 ids),(2, .int .i64 room)] []
 refine aO ?_
 refine aZ ?_
 refine ag (bl rfl) ?_
 refine ag (bl rfl) ?_
 refine aX ?_
 refine aN ?_
 refine aO ?_
 refine aZ ?_
 refine ag (aD rfl) ?_
 refine ag (aD rfl) ?_
 refine fy (cC rfl trivial) ?_
 refine ag (bl rfl) ?_
 refine aX ?_
 refine aN ?_
 refine aO ?_
 refine aO ?_
 refine aZ ?_
 refine ag (aD rfl) ?_
 refine ag (cx rfl rfl rfl) ?_
 refine ag (aD rfl) ?_
 refine bZ rfl rfl rfl (fun hg=>(Ry.yl (aD rfl))) ?_
 refine bZ rfl rfl rfl (fun hg=>cC (dA (aG hg rfl) gE) trivial) ?_
 refine bZ rfl rfl rfl (fun hg=>(Ry.yl (iR (aG hg rfl)))) ?_
 refine ag (mL rfl rfl rfl) ?_
 refine aX ?_
 refine aN ?_
 refine au rfl (fun h0=> ?_) (fun h0=> ?_)
 ·
  try simp only[Z0,Z1,Z2,Z3,Z4,Z5,Z6,Z7,Z8,Z9]at h0
  refine aO ?_
  refine aZ ?_
  refine ag (bl rfl) ?_
  refine ag (bl rfl) ?_
  refine aX ?_
  refine aN ?_
  refine eC ?_
  refine ff ?_
  refine aq (.inl rfl) (bm rfl (ak rfl) (ak rfl)) (fun w1 hw=> ?_)
  exact⟨⟨Sv.none,[]⟩,by rw[(Lj h0).1];rfl,(Lj h0).2.symm,Mem.A0 (enc:=bY) (c:=1) (ah.mem hw)⟩
 ·
  try simp only[Z0,Z1,Z2,Z3,Z4,Z5,Z6,Z7,Z8,Z9]at h0
  obtain⟨CW,G2⟩:=h0
  have hm:=Cb CW
  obtain⟨k,hk⟩: ∃k:Nat,ids=k:=⟨ids.toNat,by omega⟩
  obtain⟨n,hn⟩: ∃n:Nat,room/20=n:=⟨(room/20).toNat,by omega⟩
  have oN:ids*(room/20)=((k*n:Nat):Int):=by rw[hk,hn,Int.natCast_mul]
  have ek:ids.toNat=k:=by omega
  have en:(room/20).toNat=n:=by omega
  refine fT ?_
  refine aN ?_
  refine aO ?_
  refine aO ?_
  refine aZ ?_
  refine ag (aD rfl) ?_
  refine ag (lg rfl) ?_
  refine ag (aD rfl) ?_
  refine ag (cx rfl rfl rfl) ?_
  refine aX ?_
  refine aN ?_
  refine au rfl (fun h1=> ?_) (fun h1=> ?_)
  ·
   try simp only[Z0,Z1,Z2,Z3,Z4,Z5,Z6,Z7,Z8,Z9]at h1
   refine aO ?_
   refine aZ ?_
   refine ag (bl rfl) ?_
   refine ag (bl rfl) ?_
   refine aX ?_
   refine aN ?_
   refine eC ?_
   refine ff ?_
   refine aq (.inl rfl) (bm rfl (ak rfl) (ak rfl)) (fun w1 hw=> ?_)
   exact⟨⟨Sv.none,[]⟩,by rw[(Lk CW G2 h1).1];rfl,(Lk CW G2 h1).2.symm,Mem.A0 (enc:=bY) (c:=1) (ah.mem hw)⟩
  ·
   try simp only[Z0,Z1,Z2,Z3,Z4,Z5,Z6,Z7,Z8,Z9]at h1
   have hE:=FI CW G2 h1
   rw[ek,en]at hE
   have w9:ts.length≤k*n:=by omega
   have hl:=ht.bd
   refine fT ?_
   refine aN ?_
   refine aO ?_
   refine aZ ?_
   refine ag (aD rfl) ?_
   refine Qw (τ:=UInt8) (n:=k) (cap:=k) rfl rfl (by omega) (by omega) (by omega) (by omega) (by omega) fun du Yb=> ?_
   refine ag (bl rfl) ?_
   refine aX ?_
   refine aN ?_
   refine aO ?_
   refine aO ?_
   refine aZ ?_
   refine ag (aD rfl) ?_
   refine ag (lg rfl) ?_
   refine ag (aD rfl) ?_
   refine aX ?_
   refine aN ?_
   refine lI ?_
   refine ca (X:=Nat×Sl (Sl UInt8)) (fun zz=>[(31, .int .i64 (zz.1:Nat)),(9,zz.2.sv.val),(2, .int .i64 room),(29,t.val),(30, .int .i64 (ts.length:Nat))]) (fun zz=>[Deep.cd zz.2]) (fun zz=>zz.1≤ts.length∧lx zz.2=kD (ts.take zz.1) k n) (fun zz=>ts.length -zz.1) (0,du) ⟨by first|omega|(simp only[];omega),by rw[TA];show List.map _ _=_;rw[Yb];simp⟩ (Sub.cons rfl (Sub.cons rfl (Sub.cons rfl (Sub.cons rfl (Sub.cons rfl (Sub.nil _)))))) (fun w hw=>ah.mem hw) ?_
   rintro⟨i,a⟩ ⟨bh,aF⟩
   dsimp only
   simp only at bh aF
   refine aO ?_
   refine aZ ?_
   refine ag (cx rfl rfl rfl) ?_
   refine aX ?_
   refine aN ?_
   refine aO ?_
   refine au rfl (fun h2=> ?_) (fun h2=> ?_)
   ·
    try simp only[Z0,Z1,Z2,Z3,Z4,Z5,Z6,Z7,Z8,Z9]at h2
    refine fT ?_
    refine aN ?_
    refine aO ?_
    refine lI ?_
    refine aO ?_
    refine aZ ?_
    refine ag (aD rfl) ?_
    obtain⟨vu,G3⟩:=get_some (xs:=ts) (i:=i) (by omega)
    refine ag (bg rfl rfl i rfl (by omega)) ?_
    refine ag (gG rfl i G3 rfl) ?_
    refine bK fun jf=> ?_
    refine ag (bl rfl) ?_
    refine qN rfl rfl ?_
    refine aX ?_
    refine aN ?_
    refine aO ?_
    refine aZ ?_
    refine ag (aD rfl) ?_
    refine ag (aD rfl) ?_
    refine ag (oc rfl rfl (by omega) (by omega)) ?_
    refine ag (oc rfl rfl (by omega) (by omega)) ?_
    refine ag (bl rfl) ?_
    refine aX ?_
    refine aN ?_
    have bp:i/n<k:=Nat.div_lt_of_lt_mul (by rw[Nat.mul_comm];omega)
    have G4:i/n<a.xs.length:=by rw[←uF,aF,tB];exact bp
    obtain⟨x,hx⟩:=get_some (xs:=a.xs) (i:=i/n) G4
    have ex:(lx a)[i/n]? =some x.xs:=by simp[lx,hx]
    have xJ:((i:Nat):Int)/(room/20)=((i/n:Nat):Int):=by rw[hn];exact(Int.natCast_ediv i n).symm
    have BD:x.xs.length≤240:=by
     rw[aF,kD,List.getElem?_map]at ex
     obtain⟨j,_,hj⟩:=Option.map_eq_some_iff.1 ex
     have:=FD (ts.take i) n j
     rw[hj]at this;omega
    refine qU (own bY 1 a.sv a.xs::own aM 1 x.sv x.xs::ar jf (ay vu) 68::(a.xs.eraseIdx (i/n)).map Deep.cd) (fun w hw=>(Tr.Qx (B:=[ar jf (ay vu) 68]) hx).mem hw) ?_
    refine Ix 9 [7] [own bY 1 a.sv a.xs,ar jf (ay vu) 68] (fun w hw=>ah.mem hw) (by kernel_rfl) (by kernel_rfl) ?_
    simp only[List.take_succ_cons,List.take_zero]
    refine bc (aD rfl) ?_
    refine bc (aD rfl) ?_
    refine bc (aD rfl) ?_
    refine bc (aD rfl) ?_
    refine bc (bg rfl rfl (i/n) xJ G4) ?_
    refine bc (bL (j:=0) rfl (i/n) hx rfl (by decide)) ?_
    have Yc:Mb x _:=⟨List.mem_of_getElem? hx⟩
    refine bc (fI rfl) ?_
    refine PS ?_
    refine bc (bg rfl rfl (i/n) xJ G4) ?_
    refine sU ?_ (fun _ hw=>ah.mem hw)
    refine Qk rfl rfl (by omega) (fun _ w hw=>ah.mem hw) fun xq V0=> ?_
    refine sV ?_
    simp only[List.drop_succ_cons,List.drop_zero]
    refine A3 (k:=i/n) ⟨xq,x.xs++eJ vu⟩ (by kernel_rfl) rfl rfl rfl hx ?_
    refine aX ?_
    refine o8 ?_
    refine aN ?_
    refine aZ ?_
    refine ag (pR rfl rfl (by omega)) ?_
    refine ag (aD rfl) ?_
    refine aX ?_
    exact bx (x:=(i,a)) (i+1,⟨a.sv,a.xs.set (i/n) ⟨xq,x.xs++eJ vu⟩⟩) ⟨by first|omega|(simp only[];omega),by rw[TE,Tz (by first|omega|(simp only[];omega)) G3 (by rw[←aF];exact ex),←aF];rfl⟩ (by first|omega|(simp only[];omega)) (Sub.cons rfl (Sub.cons rfl (Sub.cons rfl (Sub.cons rfl (Sub.cons rfl (Sub.nil _)))))) (fun w hw=>ah.mem ((Tr.Qy (B:=[ar jf (ay vu) 68]) (enc:=aM) (c:=1) (by rw[←uF,aF,tB];exact bp)).mem hw))
   ·
    try simp only[Z0,Z1,Z2,Z3,Z4,Z5,Z6,Z7,Z8,Z9]at h2
    refine rU ?_
    refine l8 ?_
    refine l8 ?_
    refine rV ?_
    refine aN ?_
    refine aO ?_
    refine aZ ?_
    refine ag (aD rfl) ?_
    refine ag (bl rfl) ?_
    refine ag (bl rfl) ?_
    refine aX ?_
    refine aN ?_
    refine eC ?_
    refine aq (.inl rfl) (bm rfl (ak rfl) (ak rfl)) (fun w1 hw=> ?_)
    exact⟨a,by rw[hE.1],by rw[aF,hE.2,List.take_of_length_le (by omega)],hw⟩
instance aiy{w0:World}{L:List ai}{t:Sv}{ts:List Rt}{ids:Int}{room:Int}[ht:c0 w0 L ay 19 t ts]:cl Tryz.prog 76 w0 L [t.val, .int .i64 ids, .int .i64 room] (Sl (Sl UInt8)) (fun zz=> .tuple #[zz.sv.val, .int .i64 (jc ts ids room)]) (fun zz=>Deep.cd zz::L) (fun zz=>lx zz=jO ts ids room) (True):=⟨fun hp w hw=>(Ya w t ts ids room (ht.h w hw)).mono fun e w' ⟨x,h1,h2,h3⟩=>⟨x,h1,h2,hw.call h3⟩⟩
open Go.aC Go.Kb
open Go.RowKit
instance:fe Tryz.prog 54 (.agg (bO ly)):=⟨by kernel_rfl⟩
theorem G5(v:bM)(t:Sl Rt)(w:World):(Instr.build 54 #[(0, .agg (bF v)),(1,t.sv.val)]).run Tryz.prog w= .ok (.agg (bO ⟨v,t⟩)) w:=by
 obtain⟨s,xs⟩:=t
 obtain⟨⟨a1,a2,⟨a3,a4⟩,a5,a6,⟨a7,a8⟩⟩,⟨a9,Yd⟩,Ye,Yf⟩:=v
 unfold bO
 obtain⟨e,b,o,l,c,p⟩:=s
 obtain⟨e3,b3,o3,l3,c3,p3⟩:=a3
 obtain⟨e7,b7,o7,l7,c7,p7⟩:=a7
 obtain⟨e9,b9,o9,l9,c9,p9⟩:=a9
 cases e<;>cases e3<;>cases e7<;>cases e9<;>kernel_rfl
theorem Yg(w:World)(b:Int)(p:Int)(s:Int):Calls Tryz.prog 58 #[.int .i64 b, .int .i64 p, .int .i64 s] w fun e w'=>e= .returned (.int .i64 (tC b p s))∧Mem w [] w':=by
 have G0:=Ua b p
 have L7:=LU s
 refine ba (args:=[_,_,_]) Tryz.func58 rfl Tryz.ntmps58 rfl ?_
 change Cw _ _ _ _ _ [(0, .int .i64 b),(1, .int .i64 p),(2, .int .i64 s)] []
 refine Gc ?_
 refine Gs ?_
 refine Gc ?_
 iterate 3 refine Gs ?_
 refine ag (oc rfl rfl (by omega) (by omega)) ?_
 iterate 2 refine Gs ?_
 refine ag (DM rfl rfl) ?_
 refine Gs ?_
 refine Gc ?_
 refine aq (.inl rfl) (aI rfl (ak rfl)) (fun w1 hw=> ?_)
 exact⟨congrArg (fun b=>Ending.returned (Value.int .i64 b)) ((by rw[tC])),ah.mem hw⟩
instance aiz{w0:World}{L:List ai}{b:Int}{p:Int}{s:Int}:cB Tryz.prog 58 w0 L [.int .i64 b, .int .i64 p, .int .i64 s] (.int .i64 (tC b p s)) (True):=⟨fun hp w hw=>Yg w b p s⟩
theorem Yh(w:World)(b:Int)(p:Int)(s:Int):Calls Tryz.prog 24 #[.int .i64 b, .int .i64 p, .int .i64 s] w fun e w'=>e= .returned (.int .i64 (pC b p s))∧Mem w [] w':=by
 refine ba (args:=[_,_,_]) Tryz.func24 rfl Tryz.ntmps24 rfl ?_
 change Cw _ _ _ _ _ [(0, .int .i64 b),(1, .int .i64 p),(2, .int .i64 s)] []
 refine Gc ?_
 refine Gs ?_
 refine Gc ?_
 iterate 8 refine Gs ?_
 refine Gc ?_
 refine aq (.inl rfl) (aI rfl (ak rfl)) (fun w1 hw=> ?_)
 exact⟨congrArg (fun b=>Ending.returned (Value.int .i64 b)) ((by rw[pC])),ah.mem hw⟩
instance aiA{w0:World}{L:List ai}{b:Int}{p:Int}{s:Int}:cB Tryz.prog 24 w0 L [.int .i64 b, .int .i64 p, .int .i64 s] (.int .i64 (pC b p s)) (True):=⟨fun hp w hw=>Yh w b p s⟩
theorem Yi(w:World)(c:Cp)(hc:Deep.aY (hp w) c):Calls Tryz.prog 72 #[.agg (aB c)] w fun e w'=>e= .returned (.int .i64 (dK (cv c)))∧Mem w [] w':=by
 have jR:cg w c:=⟨hc⟩
 refine ba (args:=[_]) Tryz.func72 rfl Tryz.ntmps72 rfl ?_
 change Cw _ _ _ _ _ [(0, .agg (aB c))] []
 refine Gc ?_
 refine bX rfl fun b1=> ?_
 refine Gs ?_
 refine Gc ?_
 iterate 9 refine Gs ?_
 refine Gc ?_
 refine aq (.inl rfl) (aI rfl (ak rfl)) (fun w1 hw=> ?_)
 exact⟨congrArg (fun b=>Ending.returned (Value.int .i64 b)) ((by simp only[dK,cv,fu])),ah.mem hw⟩
instance aiB{w0:World}{L:List ai}{c:Cp}[hc:aU w0 L c]:cB Tryz.prog 72 w0 L [.agg (aB c)] (.int .i64 (dK (cv c))) (True):=⟨fun hp w hw=>Yi w c (hc.h w hw)⟩
theorem Yj(w:World)(c:Cp)(hc:Deep.aY (hp w) c):Calls Tryz.prog 70 #[.agg (aB c)] w fun e w'=>e= .returned (.int .i64 (eG (cv c)))∧Mem w [] w':=by
 have jR:cg w c:=⟨hc⟩
 refine ba (args:=[_]) Tryz.func70 rfl Tryz.ntmps70 rfl ?_
 change Cw _ _ _ _ _ [(0, .agg (aB c))] []
 refine Gc ?_
 refine bX rfl fun b1=> ?_
 refine Gs ?_
 refine Gc ?_
 iterate 9 refine Gs ?_
 refine Gc ?_
 refine aq (.inl rfl) (aI rfl (ak rfl)) (fun w1 hw=> ?_)
 exact⟨congrArg (fun b=>Ending.returned (Value.int .i64 b)) ((by simp only[eG,cv,fu])),ah.mem hw⟩
instance aiC{w0:World}{L:List ai}{c:Cp}[hc:aU w0 L c]:cB Tryz.prog 70 w0 L [.agg (aB c)] (.int .i64 (eG (cv c))) (True):=⟨fun hp w hw=>Yj w c (hc.h w hw)⟩
open Go.aC Go.Kb
open Go.RowKit
theorem Yk(w:World)(v:bM)(id:Nat)(hv:Deep.aY (hp w) v)(bb:aT (cv v.ae)=true∧id<v.at_.xs.length∧ ∀y∈v.at_.xs,0≤y∧y≤65535∧(y≠0→jJ (cv v.ae) (y -1)=true)):Calls Tryz.prog 100 #[.agg (bF v), .int .i64 (id:Nat)] w fun e w'=> ∃zz:Sv,e= .returned (zz.val)∧(True)∧Mem w [own aM 1 zz (dY (cv v.ae) (v.at_.xs.getD id 0))] w':=by
 have zu:cg w v:=⟨hv⟩
 obtain⟨hk,ib,hG⟩:=bb
 obtain⟨y,hy⟩:=get_some (xs:=v.at_.xs) (i:=id) ib
 have nk:v.at_.xs.getD id 0=y:=nL hy
 obtain⟨me,Cr,bU⟩:=hG y (List.mem_of_getElem? hy)
 refine ba (args:=[_,_]) Tryz.func100 rfl Tryz.ntmps100 rfl ?_
 change Cw _ _ _ _ _ [(0, .agg (bF v)),(1, .int .i64 (id:Nat))] []
 refine Gc ?_
 refine bX rfl fun b2=> ?_
 refine Gs ?_
 refine Gc ?_
 iterate 3 refine Gs ?_
 refine ag (bg rfl rfl id rfl (by omega)) ?_
 refine ag (bL (j:=0) rfl id hy rfl (by decide)) ?_
 iterate 2 refine Gs ?_
 refine Gc ?_
 iterate 2 refine Gs ?_
 refine Gc ?_
 refine au rfl (fun h0=> ?_) (fun h0=> ?_)
 ·
  replace h0:=bz h0
  have hE:(dY (cv v.ae) (v.at_.xs.getD id 0))=[]:=by rw[nk,dY,if_pos (by omega)]
  refine Gc ?_
  refine Gs ?_
  refine Gc ?_
  refine aq (.inl rfl) (aI rfl (ak rfl)) (fun w1 hw=> ?_)
  exact⟨Sv.none,rfl,trivial,by rw[hE];exact Mem.dP aM 1 (ah.mem hw:Mem w [] _)⟩
 ·
  replace h0:=bz h0
  have h1y:1≤y:=by omega
  obtain⟨g1,g2,g3⟩:=lj.1 (bU (by omega))
  have dt:=fu v.ae.blocks.xs
  have gX:=jI.1 (eU.1 hk).1
  simp only[cv,dt]at gX
  have zw:0≤((y -1)/v.ae.pages):=Int.ediv_nonneg (by omega) (by omega)
  have mD:0≤((y -1)%v.ae.pages):=Int.emod_nonneg _ (by omega)
  have nR:((y -1)%v.ae.pages)<v.ae.pages:=Int.emod_lt_of_pos _ (by omega)
  have nS:=uU (c:=v.ae) (b:=((y -1)/v.ae.pages))
  change 2≤((y -1)/v.ae.pages)at g1
  change((y -1)/v.ae.pages)<((gu v.ae.blocks.xs).length:Int)at g2
  rw[dt]at g2
  obtain⟨B,hB⟩:=get_some (xs:=v.ae.blocks.xs) (i:=((y -1)/v.ae.pages).toNat) (by omega)
  have qx:Mb B v.ae.blocks:=⟨List.mem_of_getElem? hB⟩
  have eH:bv B=aj (cv v.ae) ((y -1)/v.ae.pages):=by rw[←nS];simp[List.getD,hB]
  have fP:=dX.1 ((eU.1 hk).2.2.2.2 (bv B) (List.mem_of_getElem? (iV hB)))
  have iO:=jo B.pages.xs
  have zx:(B.pages.xs.length:Int)=v.ae.pages:=by have:=fP.1;simp only[bv,cv,iO]at this;exact this
  obtain⟨z,hz⟩:=get_some (xs:=B.pages.xs) (i:=((y -1)%v.ae.pages).toNat) (by omega)
  have tI:Mb z B.pages:=⟨List.mem_of_getElem? hz⟩
  have oH:bJ (cv v.ae) (y -1)=z.xs:=by
   show(aj (cv v.ae) ((y -1)/v.ae.pages)).pages.getD ((y -1)%v.ae.pages).toNat []=z.xs
   rw[←eH]
   simp[bv,List.getD,kS hz]
  have hI:(dY (cv v.ae) (v.at_.xs.getD id 0))=iC (cv v.ae) y:=by rw[nk,dY,if_neg (by omega)]
  refine Gc ?_
  refine qa [18,22,23,2022,4018] [[],[],[],[],[],[],[],[],[],[],[],[],[],[],[],[],[],[],[],[18],[18],[18],[],[18,22],[18,22,23]] [0,1,2,3,4,5,6,7,8,9,10,11,12,13,14,15,16,17,18,19,20,21,22,23,24] [ar b2 (bF v) 29] [(22,kR Tryz.prog 110)] (by kernel_rfl) (fun _ hw=>ah.mem hw) (by kernel_rfl) (by kernel_rfl) ?_
  refine al rfl (aH (o':=0) rfl rfl) ?_
  refine al rfl (aH (o':=2) rfl rfl) ?_
  refine al rfl (bH rfl) ?_
  refine al rfl (aD rfl) ?_
  refine al rfl (aH (o':=0) rfl rfl) ?_
  refine al rfl (aH (o':=0) rfl rfl) ?_
  refine al rfl (bH rfl) ?_
  refine al rfl (oc rfl rfl (by omega) (by omega)) ?_
  refine al rfl (bg rfl rfl (((y -1)/v.ae.pages).toNat) (by omega) (by omega)) ?_
  refine al rfl (aH rfl rfl) ?_
  refine al rfl (bL (j:=0) rfl (((y -1)/v.ae.pages).toNat) hB rfl (by decide)) ?_
  refine al rfl (aD rfl) ?_
  refine al rfl (aH (o':=0) rfl rfl) ?_
  refine al rfl (aH (o':=0) rfl rfl) ?_
  refine al rfl (bH rfl) ?_
  refine al rfl (yk rfl rfl (by omega) (by omega)) ?_
  refine al rfl (bg rfl rfl (((y -1)%v.ae.pages).toNat) (by omega) (by omega)) ?_
  refine al rfl (bL (j:=0) rfl (((y -1)%v.ae.pages).toNat) hz rfl (by decide)) ?_
  refine sd rfl rfl trivial (fun e x w hw=>ah.mem hw) (Cert.one (i:=22) rfl rfl rfl jX (Cert.none rfl)) fun k8 CM=>⟨fun _ hw=>ah.mem hw,?_⟩
  have e1:k8.body.xs=(cr z.xs).1.body:=congrArg PV.body CM
  refine al rfl (aD rfl) ?_
  refine al rfl (aV (v:= .agg (cG k8)) rfl rfl) ?_
  refine al rfl (aV (v:= .int .i64 ((cr z.xs).2)) rfl rfl) ?_
  refine oy (m:=kR Tryz.prog 110) rfl rfl jX (Cert.none rfl) fun b6=> ?_
  change Ln _ _ _ _ _ _ _ _ (cw _ _ (.pointer (some ⟨b6,0,none⟩))) (ar b6 (cG m9) 110::_) _
  refine dE rfl (ox rfl rfl ⟨fun _ hw=>ah.mem hw,?_⟩)
  refine al rfl (bl rfl) ?_
  refine Gc ?_
  iterate 2 refine Gs ?_
  refine Gc ?_
  refine au rfl (fun h1=> ?_) (fun h1=> ?_)
  ·
   replace h1:=bz h1
   have hE:(dY (cv v.ae) (v.at_.xs.getD id 0))=[]:=by rw[hI,iC,oH,if_neg h1]
   refine Gc ?_
   refine Gs ?_
   refine Gc ?_
   refine aq (.inl rfl) (aI rfl (ak rfl)) (fun w1 hw=> ?_)
   exact⟨Sv.none,rfl,trivial,by rw[hE];exact Mem.dP aM 1 (ah.mem hw:Mem w [] _)⟩
  ·
   replace h1:=bz h1
   have xK:(cr z.xs).2=0:=h1
   have hE:(dY (cv v.ae) (v.at_.xs.getD id 0))=k8.body.xs:=by rw[hI,iC,oH,if_pos xK,e1]
   refine Gc ?_
   iterate 3 refine Gs ?_
   refine Gc ?_
   refine aq (.inl rfl) (aI rfl (ak rfl)) (fun w1 hw=> ?_)
   exact⟨k8.body.sv,rfl,trivial,by rw[hE];exact ah.mem hw⟩
instance aiD{w0:World}{L:List ai}{v:bM}{id:Nat}[hv:aU w0 L v]:cl Tryz.prog 100 w0 L [.agg (bF v), .int .i64 (id:Nat)] (Sv) (fun zz=>zz.val) (fun zz=>own aM 1 zz (dY (cv v.ae) (v.at_.xs.getD id 0))::L) (fun zz=>True) (aT (cv v.ae)=true∧id<v.at_.xs.length∧ ∀y∈v.at_.xs,0≤y∧y≤65535∧(y≠0→jJ (cv v.ae) (y -1)=true)):=⟨fun hp w hw=>(Yk w v id (hv.h w hw) hp).mono fun e w' ⟨x,h1,h2,h3⟩=>⟨x,h1,h2,hw.call h3⟩⟩
open Go.aC Go.Kb
open Go.RowKit
theorem Ym(w:World)(s:Sl (Sl UInt8))(hs:Deep.aY (hp w) s)(bb:s.xs.length≤1000000):Calls Tryz.prog 109 #[s.sv.val] w fun e w'=> ∃zz:Sv,e= .returned (zz.val)∧(True)∧Mem w [own (bY (τ:=UInt8)) 1 zz s.xs] w':=by
 have ve:cg w s:=⟨hs⟩
 refine ba (args:=[_]) Tryz.func109 rfl Tryz.ntmps109 rfl ?_
 change Cw _ _ _ _ _ [(0,s.sv.val)] []
 refine Gc ?_
 refine Gs ?_
 refine Gc ?_
 refine Gs ?_
 refine ag (rX Tryz.underlying46 rfl) ?_
 refine Gc ?_
 refine au rfl (fun h0=> ?_) (fun h0=> ?_)
 ·
  replace h0:=bz h0
  have e0:s.xs=[]:=List.length_eq_zero_iff.1 (by have:=hs.1.ok.nil h0;have:=hs.1.len;omega)
  refine Gc ?_
  refine Gs ?_
  refine Gc ?_
  refine aq (.inl rfl) (aI rfl (ak rfl)) (fun w1 hw=> ?_)
  exact⟨Sv.none,rfl,trivial,by rw[e0];exact(ah.mem hw:Mem w [] _).dP (bY (τ:=UInt8)) 1⟩
 ·
  replace h0:=bz h0
  refine Gc ?_
  refine tc (bY (τ:=UInt8)) fun b5=> ?_
  refine Gs ?_
  refine mg (s:=⟨false,b5,0,0,0,none⟩) (enc:=(bY (τ:=UInt8))) (ys:=s.xs) rfl rfl (by decide) (fun w hw=>kN (s:=s.sv) Tryz.underlying46 (by decide) ((inferInstance:c0 _ _ (bY (τ:=UInt8)) 1 s.sv s.xs).h w hw)) (by simp only[List.length_nil];omega) (by simp only[List.length_nil];omega) fun s7 vf tF=> ?_
  refine Gs ?_
  refine Gc ?_
  refine aq (.inl rfl) (aI rfl (ak rfl)) (fun w1 hw=> ?_)
  exact⟨s7,rfl,trivial,by rw[List.nil_append]at hw;exact ah.mem hw⟩
instance aiE{w0:World}{L:List ai}{s:Sl (Sl UInt8)}[hs:aU w0 L s]:cl Tryz.prog 109 w0 L [s.sv.val] (Sv) (fun zz=>zz.val) (fun zz=>own (bY (τ:=UInt8)) 1 zz s.xs::L) (fun zz=>True) (s.xs.length≤1000000):=⟨fun hp w hw=>(Ym w s (hs.h w hw) hp).mono fun e w' ⟨x,h1,h2,h3⟩=>⟨x,h1,h2,hw.call h3⟩⟩
theorem Yn(w:World)(c:Cp)(hc:Deep.aY (hp w) c)(bb:dQ c):Calls Tryz.prog 71 #[.agg (aB c)] w fun e w'=> ∃zz:Cp,e= .returned (.agg (aB zz))∧(cv zz=cv c)∧Mem w [fz zz] w':=by
 have jR:cg w c:=⟨hc⟩
 obtain⟨kG,iK,nQ⟩:=bb
 refine ba (args:=[_]) Tryz.func71 rfl Tryz.ntmps71 rfl ?_
 change Cw _ _ _ _ _ [(0, .agg (aB c))] []
 refine Gc ?_
 refine bX rfl fun b1=> ?_
 refine bK fun b2=> ?_
 refine Gc ?_
 iterate 2 refine Gs ?_
 refine bq rfl (by omega) fun x9 zt=> ?_
 refine Gs ?_
 refine eN (cs':=aB (⟨c.pages,c.size,⟨x9,c.blocks.xs⟩,c.ops,c.off,c.aR⟩:Cp)) rfl rfl (by show 2<6;decide) (by first|rfl|exact Sv.one _) rfl ?_
 refine Gc ?_
 iterate 4 refine Gs ?_
 refine Gc ?_
 refine ca (X:=Nat×List Bk) (fun zz=>[(14, .int .i64 (zz.1:Nat)),(1, .pointer (some ⟨b1,0,none⟩)),(2, .pointer (some ⟨b2,0,none⟩)),(12,x9.val),(13, .int .i64 (c.blocks.xs.length:Nat))]) (fun zz=>[own bI 4 x9 zz.2,ai.all ((zz.2.take zz.1).map fun b:Bk=>fz b.pages),ar b2 (aB fX) 25,ar b1 (aB (⟨c.pages,c.size,⟨x9,zz.2⟩,c.ops,c.off,c.aR⟩:Cp)) 25]) (fun zz=>zz.1≤c.blocks.xs.length∧zz.2.length=c.blocks.xs.length∧gu zz.2=gu c.blocks.xs∧ ∀j,zz.1≤j→zz.2[j]? =c.blocks.xs[j]?) (fun zz=>c.blocks.xs.length -zz.1) (0,c.blocks.xs) ⟨Nat.zero_le _,rfl,rfl,fun _ _=>rfl⟩ (Sub.cons rfl (Sub.cons rfl (Sub.cons rfl (Sub.cons rfl (Sub.cons rfl (Sub.nil _)))))) (fun w hw=>by
  simp only[List.take_zero,List.map_nil];exact ah.mem (Mem.uR hw)) ?_
 rintro⟨i,zs⟩ ⟨bh,aF,bt,cS⟩
 dsimp only
 simp only at bh aF bt cS
 refine Gc ?_
 refine Gs ?_
 refine Gc ?_
 refine au rfl (fun h0=> ?_) (fun h0=> ?_)
 ·
  replace h0:=bz h0
  obtain⟨z,hz⟩:=get_some (xs:=zs) (i:=i) (by omega)
  have tI:Mb z c.blocks:=⟨List.mem_of_getElem? (by rw[←cS i (Nat.le_refl _)];exact hz)⟩
  have fc:=nQ z tI.h
  obtain⟨Yo,aiF⟩:=fc
  rw[jo]at Yo
  refine Gc ?_
  refine Gs ?_
  refine ag (bg rfl rfl i rfl (by omega)) ?_
  refine ag (gG rfl i hz rfl) ?_
  refine bK fun b4=> ?_
  iterate 2 refine Gs ?_
  refine Gc ?_
  iterate 2 refine Gs ?_
  refine bq rfl (by omega) fun jh GB=> ?_
  refine Gs ?_
  refine Gc ?_
  iterate 3 refine Gs ?_
  refine Gc ?_
  refine ca (X:=Nat×List (Sl UInt8)) (fun zz=>[(24, .int .i64 (zz.1:Nat)),(5,jh.val),(1, .pointer (some ⟨b1,0,none⟩)),(2, .pointer (some ⟨b2,0,none⟩)),(3, .int .i64 (i:Nat)),(12,x9.val),(13, .int .i64 (c.blocks.xs.length:Nat)),(14, .int .i64 (i:Nat)),(23, .int .i64 (z.pages.xs.length:Nat))]) (fun zz=>[own (bY (τ:=UInt8)) 1 jh zz.2,ai.all ((zz.2.take zz.1).map fun b:Sl UInt8=>fz b),ar b4 (bI z) 48,own bI 4 x9 zs,ai.all ((zs.take i).map fun b:Bk=>fz b.pages),ar b2 (aB fX) 25,ar b1 (aB (⟨c.pages,c.size,⟨x9,zs⟩,c.ops,c.off,c.aR⟩:Cp)) 25]) (fun zz=>zz.1≤z.pages.xs.length∧zz.2.length=z.pages.xs.length∧aJ zz.2=aJ z.pages.xs∧ ∀k,zz.1≤k→zz.2[k]? =z.pages.xs[k]?) (fun zz=>z.pages.xs.length -zz.1) (0,z.pages.xs) ⟨Nat.zero_le _,rfl,rfl,fun _ _=>rfl⟩ (Sub.cons rfl (Sub.cons rfl (Sub.cons rfl (Sub.cons rfl (Sub.cons rfl (Sub.cons rfl (Sub.cons rfl (Sub.cons rfl (Sub.cons rfl (Sub.nil _)))))))))) (fun w hw=>by
   simp only[List.take_zero,List.map_nil];exact ah.mem (Mem.uR hw)) ?_
  rintro⟨j,qs⟩ ⟨ic,dz,iP,lC⟩
  dsimp only
  simp only at ic dz iP lC
  refine Gc ?_
  refine Gs ?_
  refine Gc ?_
  refine au rfl (fun h1=> ?_) (fun h1=> ?_)
  ·
   replace h1:=bz h1
   obtain⟨y,hy⟩:=get_some (xs:=qs) (i:=j) (by omega)
   have G6:z.pages.xs[j]? =some y:=by rw[←lC j (Nat.le_refl _)];exact hy
   have vj:Mb y z.pages:=⟨List.mem_of_getElem? G6⟩
   have w9:=yW (kS G6)
   have iO:=yX (aJ z.pages.xs) (j+1)
   have Yp:y.xs.length≤140737488355328:=by rw[w9]at iO;omega
   refine Gc ?_
   iterate 2 refine Gs ?_
   iterate 2 refine Gi ?_
   refine Bp (s:=jh) (enc:=bY (τ:=UInt8)) (c:=1) (xs:=qs) inferInstance (by omega) fun aiG aiH Yq aiI=> ?_
   refine Gi ?_
   iterate 4 refine Gs ?_
   refine ag (bg rfl rfl j rfl (by omega)) ?_
   refine ag (bL (j:=0) rfl j hy rfl (by decide)) ?_
   refine bq rfl Yp fun jS tT=> ?_
   obtain⟨vu,G3⟩:=get_some (xs:=qs) (i:=j) (by omega)
   refine ag (lK (s:=jh) (i:=j) rfl rfl rfl Yq (by omega)) ?_
   refine A3 (s:=jh) (xs:=qs) (k:=j) (a:=y) (⟨jS,y.xs⟩:Sl UInt8) (by kernel_rfl) rfl rfl rfl hy ?_
   refine Gc ?_
   iterate 2 refine Gs ?_
   refine Gi ?_
   exact bx (x:=(j,qs)) (j+1,qs.set j (⟨jS,y.xs⟩:Sl UInt8)) ⟨by first|omega|(simp only[];omega),by rw[List.length_set];exact dz,by rw[aJ,List.map_set,←aJ,iP];exact tl (z:=y.xs) (kS G6),fun k hk=>by rw[List.getElem?_set_ne (by first|omega|(simp only[];omega))];exact lC k (by first|omega|(simp only[];omega))⟩ (by simp only;omega) (Sub.cons rfl (Sub.cons rfl (Sub.cons rfl (Sub.cons rfl (Sub.cons rfl (Sub.cons rfl (Sub.cons rfl (Sub.cons rfl (Sub.cons rfl (Sub.nil _)))))))))) (fun w hw=>by
    have h1:=EH (a:=(⟨jS,y.xs⟩:Sl UInt8)) (ah.mem hw:Mem _ (own aM 1 jS y.xs::[own (bY (τ:=UInt8)) 1 jh (qs.set j (⟨jS,y.xs⟩:Sl UInt8)),ai.all ((qs.take j).map fun b:Sl UInt8=>fz b),ar b4 (bI z) 48,own bI 4 x9 zs,ai.all ((zs.take i).map fun b:Bk=>fz b.pages),ar b2 (aB fX) 25,ar b1 (aB (⟨c.pages,c.size,⟨x9,zs⟩,c.ops,c.off,c.aR⟩:Cp)) 25]) _)
    have h3:=Mem.wC (ah.mem h1:Mem _ (fz (⟨jS,y.xs⟩:Sl UInt8)::ai.all ((qs.take j).map fun b:Sl UInt8=>fz b)::[own (bY (τ:=UInt8)) 1 jh (qs.set j (⟨jS,y.xs⟩:Sl UInt8)),ar b4 (bI z) 48,own bI 4 x9 zs,ai.all ((zs.take i).map fun b:Bk=>fz b.pages),ar b2 (aB fX) 25,ar b1 (aB (⟨c.pages,c.size,⟨x9,zs⟩,c.ops,c.off,c.aR⟩:Cp)) 25]) _)
    rw[ES (z':=(⟨jS,y.xs⟩:Sl UInt8)) hy]at h3
    exact ah.mem h3)
  ·
   replace h1:=bz h1
   obtain rfl:j=qs.length:=by omega
   rw[List.take_of_length_le (Nat.le_refl _)]at*
   iterate 5 refine Gi ?_
   refine Bp (s:=x9) (enc:=bI) (c:=4) (xs:=zs) inferInstance (by omega) fun hn9 hs9 Yr hl9=> ?_
   refine Gi ?_
   iterate 4 refine Gs ?_
   obtain⟨zX,Ys⟩:=get_some (xs:=zs) (i:=i) (by omega)
   refine ag (lK (s:=x9) (i:=i) rfl rfl rfl Yr (by omega)) ?_
   refine ag (aH rfl rfl) ?_
   refine kO (n:=1) (k:=i) (j:=0) (a:=z) (a':=({z with pages:=⟨jh,qs⟩}:Bk)) (xs:=zs) (enc:=bI) (c:=4) (v:=jh.val) (by kernel_rfl) rfl rfl rfl hz (by rw[Sv.iU];simp[Sv.one]) (by rw[Sv.iU];rfl) (by decide) (by rw[Sv.iU];rfl) ?_
   refine Gc ?_
   iterate 2 refine Gs ?_
   refine Gi ?_
   exact bx (x:=(i,zs)) (i+1,zs.set i ({z with pages:=⟨jh,qs⟩}:Bk)) ⟨by first|omega|(simp only[];omega),by rw[List.length_set];exact aF,by rw[uT,←bt,show bv ({z with pages:=⟨jh,qs⟩}:Bk)=bv z from by rw[bv,bv,iP],←uT,tl hz],fun j hj=>by rw[List.getElem?_set_ne (by first|omega|(simp only[];omega))];exact cS j (by first|omega|(simp only[];omega))⟩ (by simp only;omega) (Sub.cons rfl (Sub.cons rfl (Sub.cons rfl (Sub.cons rfl (Sub.cons rfl (Sub.nil _)))))) (fun w hw=>by
    have h1:=ER (ah.mem hw:Mem _ (own (bY (τ:=UInt8)) 1 jh qs::ai.all (qs.map fun b:Sl UInt8=>fz b)::[own bI 4 x9 (zs.set i ({z with pages:=⟨jh,qs⟩}:Bk)),ai.all ((zs.take i).map fun b:Bk=>fz b.pages),ar b2 (aB fX) 25,ar b1 (aB (⟨c.pages,c.size,⟨x9,zs⟩,c.ops,c.off,c.aR⟩:Cp)) 25]) _)
    have h3:=Mem.wC (ah.mem h1:Mem _ (fz (⟨jh,qs⟩:Sl (Sl UInt8))::ai.all ((zs.take i).map fun b:Bk=>fz b.pages)::[own bI 4 x9 (zs.set i ({z with pages:=⟨jh,qs⟩}:Bk)),ar b2 (aB fX) 25,ar b1 (aB (⟨c.pages,c.size,⟨x9,zs⟩,c.ops,c.off,c.aR⟩:Cp)) 25]) _)
    rw[J4 (z':=({z with pages:=⟨jh,qs⟩}:Bk)) hz]at h3
    exact(ah.mem h3:Mem _ [own bI 4 x9 (zs.set i ({z with pages:=⟨jh,qs⟩}:Bk)),ai.all (((zs.set i ({z with pages:=⟨jh,qs⟩}:Bk)).take (i+1)).map fun b:Bk=>fz b.pages),ar b2 (aB fX) 25,ar b1 (aB (⟨c.pages,c.size,⟨x9,zs⟩,c.ops,c.off,c.aR⟩:Cp)) 25] _))
 ·
  replace h0:=bz h0
  obtain rfl:i=zs.length:=by omega
  rw[List.take_of_length_le (Nat.le_refl _)]at*
  refine Gc ?_
  refine Gs ?_
  refine ag (Ry.to (v':=c.aR.sv.val) (bH rfl) rfl) ?_
  refine bq rfl (by omega) fun qC MY=> ?_
  refine Gs ?_
  refine eN (cs':=aB (⟨c.pages,c.size,⟨x9,zs⟩,c.ops,c.off,⟨qC,c.aR.xs⟩⟩:Cp)) rfl rfl (by show 5<6;decide) (by first|rfl|exact Sv.one _) rfl ?_
  refine Gc ?_
  iterate 2 refine Gs ?_
  refine Gc ?_
  refine aq (.inl rfl) (aI rfl (cc rfl)) (fun w1 hw=> ?_)
  exact⟨(⟨c.pages,c.size,⟨x9,zs⟩,c.ops,c.off,⟨qC,c.aR.xs⟩⟩:Cp),rfl,by simp only[cv,bt],BA (d:=(⟨c.pages,c.size,⟨x9,zs⟩,c.ops,c.off,⟨qC,c.aR.xs⟩⟩:Cp)) ((JM (a:=(⟨qC,c.aR.xs⟩:Sl Ft)) ((J1 (ah.mem hw:Mem w (own bI 4 x9 zs::ai.all (zs.map fun b:Bk=>fz b.pages)::[own di 4 qC c.aR.xs]) _)).perm (List.Perm.swap _ _ _))).perm (List.Perm.swap _ _ _))⟩
instance aiJ{w0:World}{L:List ai}{c:Cp}[hc:aU w0 L c]:cl Tryz.prog 71 w0 L [.agg (aB c)] (Cp) (fun zz=> .agg (aB zz)) (fun zz=>fz zz::L) (fun zz=>cv zz=cv c) (dQ c):=⟨fun hp w hw=>(Yn w c (hc.h w hw) hp).mono fun e w' ⟨x,h1,h2,h3⟩=>⟨x,h1,h2,hw.call h3⟩⟩
open Go.aC Go.Kb
open Go.RowKit
theorem Yt(w:World)(c:Cp)(hc:Deep.aY (hp w) c):Calls Tryz.prog 54 #[.agg (aB c)] w fun e w'=> ∃zz:cm×Sl (Sl UInt8),e= .returned (.tuple #[.agg (bO zz.1),zz.2.sv.val, .int .i64 ((dg (cv c)).2)])∧(bE zz.1=(dg (cv c)).1∧lx zz.2=jA (cv c))∧Mem w [fz zz.1,fz zz.2] w':=by
 have jR:cg w c:=⟨hc⟩
 refine ba (args:=[_]) Tryz.func54 rfl Tryz.ntmps54 rfl ?_
 change Cw _ _ _ _ _ [(0, .agg (aB c))] []
 refine Gc ?_
 refine bX rfl fun b1=> ?_
 refine bK fun b2=> ?_
 iterate 2 refine Gs ?_
 refine Gc ?_
 iterate 3 refine Gs ?_
 refine Gc ?_
 refine au rfl (fun h0=> ?_) (fun h0=> ?_)
 ·
  replace h0:=bz h0
  have hE:=LO h0
  refine Gc ?_
  refine ag (cR (v:= .agg (bO ly)) rfl (fun w=>by kernel_rfl)) ?_
  iterate 3 refine Gs ?_
  refine Gc ?_
  refine aq (.inl rfl) (ta rfl (cc rfl) (ak rfl) (ak rfl)) (fun w1 hw=> ?_)
  exact⟨(ly,⟨Sv.none,[]⟩),by rw[hE.1];rfl,⟨by rw[hE.1];rfl,by rw[hE.2];rfl⟩,Cn (wZ (ah.mem hw:Mem w [] _))⟩
 ·
  replace h0:=bz h0
  refine Gc ?_
  refine Gs ?_
  refine bq rfl trivial fun aA kg=> ?_
  have Yu:=Ku (cv c)
  rw[Tt]at kg
  have CX:aA.at_.xs=(bw (cv c)).1.at_:=congrArg VV.at_ kg
  rw[←CX]at Yu
  have aiK: ∀(L:List ai) [Hd w L aA.at_.sv bG 1 aA.at_.xs],aU w L aA.at_:=fun L q=>⟨fun w h=>⟨q.h w h,fun _ _=>trivial⟩⟩
  have aiL: ∀(L:List ai) [aU w L aA.ae] [aU w L aA.at_],aU w L aA:=fun L p q=>⟨fun w h=>⟨p.h w h,q.h w h⟩⟩
  refine Gs ?_
  refine ag (aV (v:= .agg (bF aA)) rfl rfl) ?_
  refine ag (aV (v:= .int .i64 ((bw (cv c)).2)) rfl rfl) ?_
  refine bK fun b5=> ?_
  iterate 2 refine Gs ?_
  refine Gc ?_
  iterate 2 refine Gs ?_
  refine Gc ?_
  refine au rfl (fun h1=> ?_) (fun h1=> ?_)
  ·
   replace h1:=bz h1
   have hE:=LP h0 h1
   refine Gc ?_
   refine ag (cR (v:= .agg (bO ly)) rfl (fun w=>by kernel_rfl)) ?_
   iterate 4 refine Gs ?_
   refine Gc ?_
   refine aq (.inl rfl) (ta rfl (cc rfl) (ak rfl) (ak rfl)) (fun w1 hw=> ?_)
   exact⟨(ly,⟨Sv.none,[]⟩),by rw[hE.1];rfl,⟨by rw[hE.1];rfl,by rw[hE.2];rfl⟩,Cn (wZ (ah.mem hw:Mem w [] _))⟩
  ·
   replace h1:=bz h1
   have xK:(bw (cv c)).2=0:=h1
   have G7:kx (vv aA)=true:=by rw[kg];exact Uc xK
   have yd:cv aA.ae=(vv aA).ae:=rfl
   have Yv:aT (cv aA.ae)=true:=(y7 G7).1
   have Yw: ∀y∈aA.at_.xs,0≤y∧y≤65535∧(y≠0→jJ (cv aA.ae) (y -1)=true):=fun y hy=>by
    obtain⟨g1,g2⟩:=(y7 G7).2.2 y hy
    obtain⟨j,hj⟩:=List.getElem?_of_mem hy
    exact⟨g1,g2,fun g=>(Kw G7 hj g).2.2⟩
   refine Gc ?_
   refine gO (by kernel_rfl) (by kernel_rfl) ?_
   iterate 4 refine Gq ?_
   refine sW (cC rfl trivial) ?_
   refine Gq ?_
   refine Gc ?_
   refine au rfl (fun h2=> ?_) (fun h2=> ?_)
   ·
    replace h2:=bz h2
    have zY:(((bw (cv c)).1.at_.length:Nat):Int)≠dK (cv c):=by rw[←CX];exact h2
    have hE:=LQ h0 xK zY
    refine Gc ?_
    refine ag (cR (v:= .agg (bO ly)) rfl (fun w=>by kernel_rfl)) ?_
    iterate 3 refine Gs ?_
    refine Gc ?_
    refine aq (.inl rfl) (ta rfl (cc rfl) (ak rfl) (ak rfl)) (fun w1 hw=> ?_)
    exact⟨(ly,⟨Sv.none,[]⟩),by rw[hE.1];rfl,⟨by rw[hE.1];rfl,by rw[hE.2];rfl⟩,Cn (wZ (ah.mem hw:Mem w [] _))⟩
   ·
    replace h2:=bz h2
    have zY:(((bw (cv c)).1.at_.length:Nat):Int)=dK (cv c):=by rw[←CX];exact h2
    have aiM:aA.at_.xs.length≤64:=by have:=FU (cv c);rw[←CX]at zY;omega
    refine Gc ?_
    iterate 3 refine Gs ?_
    refine s9 (enc:=bY (τ:=UInt8)) (n:=aA.at_.xs.length) (cap:=aA.at_.xs.length) (⟨Sv.none,[]⟩:Sl UInt8) rfl rfl rfl rfl rfl (by omega) (by omega) (by omega) fun jE=> ?_
    refine Gs ?_
    refine Gc ?_
    iterate 3 refine Gs ?_
    refine Gc ?_
    refine ca (X:=Nat×List (Sl UInt8)) (fun zz=>[(36, .int .i64 (zz.1:Nat)),(7,(⟨false,jE,0,aA.at_.xs.length,aA.at_.xs.length,none⟩:Sv).val),(2, .pointer (some ⟨b2,0,none⟩)),(5, .pointer (some ⟨b5,0,none⟩)),(35, .int .i64 ((List.replicate aA.at_.xs.length (⟨Sv.none,[]⟩:Sl UInt8)).length:Nat))]) (fun zz=>[own (bY (τ:=UInt8)) 1 ⟨false,jE,0,aA.at_.xs.length,aA.at_.xs.length,none⟩ zz.2,ai.all ((zz.2.take zz.1).map fun b:Sl UInt8=>fz b),ar b5 (bF aA) 29,fz aA.ae,own bG 1 aA.at_.sv aA.at_.xs,ar b2 (bO ly) 54,ar b1 (aB c) 25]) (fun zz=>zz.1≤aA.at_.xs.length∧zz.2.length=aA.at_.xs.length∧aJ (zz.2.take zz.1)=(aA.at_.xs.take zz.1).map (dY (cv aA.ae))) (fun zz=>aA.at_.xs.length -zz.1) (0,List.replicate aA.at_.xs.length (⟨Sv.none,[]⟩:Sl UInt8)) ⟨Nat.zero_le _,by simp,by simp[aJ]⟩ (Sub.cons rfl (Sub.cons rfl (Sub.cons rfl (Sub.cons rfl (Sub.cons rfl (Sub.nil _)))))) (fun w hw=>by
     simp only[List.take_zero,List.map_nil];exact ah.mem (Mem.uR hw)) ?_
    rintro⟨i,qs⟩ ⟨bh,aF,bt⟩
    dsimp only
    simp only at bh aF bt
    refine Gc ?_
    refine Gs ?_
    refine Gc ?_
    refine au rfl (fun h3=> ?_) (fun h3=> ?_)
    ·
     replace h3:=bz h3
     rw[List.length_replicate]at h3
     obtain⟨q,hq⟩:=get_some (xs:=qs) (i:=i) (by omega)
     obtain⟨y,hy⟩:=get_some (xs:=aA.at_.xs) (i:=i) (by omega)
     have nk:aA.at_.xs.getD i 0=y:=nL hy
     refine Gc ?_
     iterate 2 refine Gs ?_
     iterate 2 refine Gi ?_
     have Yx:=BK (b:=jE) (n:=aA.at_.xs.length) (by omega)
     refine Gi ?_
     iterate 4 refine Gs ?_
     refine bq rfl ⟨Yv,by omega,Yw⟩ fun jC pI=> ?_
     obtain⟨e44,aiN⟩:=get_some (xs:=qs) (i:=i) (by omega)
     refine ag (lK (s:=⟨false,jE,0,aA.at_.xs.length,aA.at_.xs.length,none⟩) (i:=i) rfl rfl rfl Yx (by simp only;omega)) ?_
     refine A3 (s:=⟨false,jE,0,aA.at_.xs.length,aA.at_.xs.length,none⟩) (xs:=qs) (k:=i) (a:=q) (⟨jC,dY (cv aA.ae) (aA.at_.xs.getD i 0)⟩:Sl UInt8) (by kernel_rfl) rfl rfl (by omega) hq ?_
     refine Gc ?_
     iterate 2 refine Gs ?_
     refine Gi ?_
     exact bx (x:=(i,qs)) (i+1,qs.set i (⟨jC,dY (cv aA.ae) (aA.at_.xs.getD i 0)⟩:Sl UInt8)) ⟨by first|omega|(simp only[];omega),by rw[List.length_set];exact aF,by rw[aJ,BJ hq,←aJ,bt,List.take_add_one,hy,List.map_append,nk];rfl⟩ (by simp only;omega) (Sub.cons rfl (Sub.cons rfl (Sub.cons rfl (Sub.cons rfl (Sub.cons rfl (Sub.nil _)))))) (fun w hw=>by
      have h1:=EH (a:=(⟨jC,dY (cv aA.ae) (aA.at_.xs.getD i 0)⟩:Sl UInt8)) (ah.mem hw:Mem _ (own aM 1 jC (dY (cv aA.ae) (aA.at_.xs.getD i 0))::[own (bY (τ:=UInt8)) 1 ⟨false,jE,0,aA.at_.xs.length,aA.at_.xs.length,none⟩ (qs.set i (⟨jC,dY (cv aA.ae) (aA.at_.xs.getD i 0)⟩:Sl UInt8)),ai.all ((qs.take i).map fun b:Sl UInt8=>fz b),ar b5 (bF aA) 29,fz aA.ae,own bG 1 aA.at_.sv aA.at_.xs,ar b2 (bO ly) 54,ar b1 (aB c) 25]) _)
      have h3:=Mem.wC (ah.mem h1:Mem _ (fz (⟨jC,dY (cv aA.ae) (aA.at_.xs.getD i 0)⟩:Sl UInt8)::ai.all ((qs.take i).map fun b:Sl UInt8=>fz b)::[own (bY (τ:=UInt8)) 1 ⟨false,jE,0,aA.at_.xs.length,aA.at_.xs.length,none⟩ (qs.set i (⟨jC,dY (cv aA.ae) (aA.at_.xs.getD i 0)⟩:Sl UInt8)),ar b5 (bF aA) 29,fz aA.ae,own bG 1 aA.at_.sv aA.at_.xs,ar b2 (bO ly) 54,ar b1 (aB c) 25]) _)
      rw[ES (z':=(⟨jC,dY (cv aA.ae) (aA.at_.xs.getD i 0)⟩:Sl UInt8)) hq]at h3
      exact ah.mem h3)
    ·
     replace h3:=bz h3
     rw[List.length_replicate]at h3
     obtain rfl:i=qs.length:=by omega
     rw[List.take_of_length_le (Nat.le_refl _)]at*
     rw[List.take_of_length_le (by omega)]at bt
     have sq:lx (⟨⟨false,jE,0,aA.at_.xs.length,aA.at_.xs.length,none⟩,qs⟩:Sl (Sl UInt8))=cj (bw (cv c)).1:=by rw[←kg];exact bt
     have dt: ∀x∈qs,x.xs.length≤100000:=fun x hx=>by
      have hm:x.xs∈aJ qs:=List.mem_map_of_mem (f:=fun x:Sl UInt8=>x.xs) hx
      rw[bt]at hm
      obtain⟨y,_,Yy⟩:=List.mem_map.1 hm
      rw[←Yy]
      exact Nat.le_trans (Ue _ _) (by decide)
     iterate 6 refine Gi ?_
     refine qU [fz (⟨⟨false,jE,0,aA.at_.xs.length,aA.at_.xs.length,none⟩,qs⟩:Sl (Sl UInt8)),ar b5 (bF aA) 29,fz aA.ae,own bG 1 aA.at_.sv aA.at_.xs,ar b2 (bO ly) 54,ar b1 (aB c) 25] (fun w hw=>ah.mem (ER (ah.mem hw:Mem _ (own (bY (τ:=UInt8)) 1 ⟨false,jE,0,aA.at_.xs.length,aA.at_.xs.length,none⟩ qs::ai.all (qs.map fun b:Sl UInt8=>fz b)::[ar b5 (bF aA) 29,fz aA.ae,own bG 1 aA.at_.sv aA.at_.xs,ar b2 (bO ly) 54,ar b1 (aB c) 25]) _))) ?_
     refine Gi ?_
     refine Gs ?_
     refine bq (hc:=X9 (a:=(⟨⟨false,jE,0,aA.at_.xs.length,aA.at_.xs.length,none⟩,qs⟩:Sl (Sl UInt8)))) rfl ⟨by show qs.length≤1000;omega,dt⟩ fun tW MF=> ?_
     refine Gs ?_
     refine ag (aV (v:=tW.val) rfl rfl) ?_
     refine ag (aV (v:= .int .i64 (jP (lx (⟨⟨false,jE,0,aA.at_.xs.length,aA.at_.xs.length,none⟩,qs⟩:Sl (Sl UInt8))))) rfl rfl) ?_
     iterate 2 refine Gs ?_
     refine Gc ?_
     iterate 2 refine Gs ?_
     refine Gc ?_
     refine au rfl (fun h4=> ?_) (fun h4=> ?_)
     ·
      replace h4:=bz h4
      rw[sq]at h4
      have hE:=LR h0 xK zY h4
      refine Gc ?_
      refine ag (cR (v:= .agg (bO ly)) rfl (fun w=>by kernel_rfl)) ?_
      iterate 3 refine Gs ?_
      refine Gc ?_
      refine aq (.inl rfl) (ta rfl (cc rfl) (ak rfl) (ak rfl)) (fun w1 hw=> ?_)
      exact⟨(ly,⟨Sv.none,[]⟩),by rw[hE.1];rfl,⟨by rw[hE.1];rfl,by rw[hE.2];rfl⟩,Cn (wZ (ah.mem hw:Mem w [] _))⟩
     ·
      replace h4:=bz h4
      have MZ:=h4
      rw[sq]at MZ
      have hE:=Ck h0 xK zY MZ
      refine Gc ?_
      iterate 2 refine Gs ?_
      refine ag (cR (v:= .agg (bO (⟨aA,⟨tW,jd (lx (⟨⟨false,jE,0,aA.at_.xs.length,aA.at_.xs.length,none⟩,qs⟩:Sl (Sl UInt8)))⟩⟩:cm))) rfl (G5 aA ⟨tW,jd (lx (⟨⟨false,jE,0,aA.at_.xs.length,aA.at_.xs.length,none⟩,qs⟩:Sl (Sl UInt8)))⟩)) ?_
      iterate 4 refine Gs ?_
      refine Gc ?_
      refine aq (.inl rfl) (ta rfl (cc rfl) (ak rfl) (ak rfl)) (fun w1 hw=> ?_)
      exact⟨((⟨aA,⟨tW,jd (lx (⟨⟨false,jE,0,aA.at_.xs.length,aA.at_.xs.length,none⟩,qs⟩:Sl (Sl UInt8)))⟩⟩:cm),(⟨⟨false,jE,0,aA.at_.xs.length,aA.at_.xs.length,none⟩,qs⟩:Sl (Sl UInt8))),by rw[hE.1],⟨by rw[hE.1];simp only[bE,sq,kg],by rw[hE.2];exact sq⟩,LS (f:=(⟨aA,⟨tW,jd (lx (⟨⟨false,jE,0,aA.at_.xs.length,aA.at_.xs.length,none⟩,qs⟩:Sl (Sl UInt8)))⟩⟩:cm)) (ah.mem hw:Mem w [fz aA.ae,own bG 1 aA.at_.sv aA.at_.xs,own ay 19 tW (jd (lx (⟨⟨false,jE,0,aA.at_.xs.length,aA.at_.xs.length,none⟩,qs⟩:Sl (Sl UInt8)))),fz (⟨⟨false,jE,0,aA.at_.xs.length,aA.at_.xs.length,none⟩,qs⟩:Sl (Sl UInt8))] _)⟩
instance aiO{w0:World}{L:List ai}{c:Cp}[hc:aU w0 L c]:cl Tryz.prog 54 w0 L [.agg (aB c)] (cm×Sl (Sl UInt8)) (fun zz=> .tuple #[.agg (bO zz.1),zz.2.sv.val, .int .i64 ((dg (cv c)).2)]) (fun zz=>fz zz.1::fz zz.2::L) (fun zz=>bE zz.1=(dg (cv c)).1∧lx zz.2=jA (cv c)) (True):=⟨fun hp w hw=>(Yt w c (hc.h w hw)).mono fun e w' ⟨x,h1,h2,h3⟩=>⟨x,h1,h2,hw.call h3⟩⟩
open Go.aC Go.Kb
open Go.RowKit
theorem Yz(w:World)(x:Sv)(xs:List Rt)(y:Sv)(ys:List Rt)(hx:bQ ay 19 (hp w) x xs)(hy:bQ ay 19 (hp w) y ys):Calls Tryz.prog 105 #[x.val,y.val] w fun e w'=>e= .returned (.bool (decide (xs=ys)))∧Mem w [] w':=by
 have tK:Gv w x ay 19 xs:=⟨hx⟩
 have Gk:Gv w y ay 19 ys:=⟨hy⟩
 have Mj:=hx.bd
 refine ba (args:=[_,_]) Tryz.func105 rfl Tryz.ntmps105 rfl ?_
 change Cw _ _ _ _ _ [(0,x.val),(1,y.val)] []
 refine Gc ?_
 refine Gs ?_
 refine Gc ?_
 iterate 5 refine Gs ?_
 refine Gc ?_
 refine au rfl (fun h0=> ?_) (fun h0=> ?_)
 ·
  replace h0:=bz h0
  have hz:decide (xs=ys)=false:=decide_eq_false fun e=>h0 (by rw[e])
  refine Gc ?_
  refine Gs ?_
  refine Gc ?_
  refine aq (.inl rfl) (aI rfl (ak rfl)) (fun w1 hw=> ?_)
  exact⟨congrArg (fun b=>Ending.returned (Value.bool b)) (hz.symm),ah.mem hw⟩
 ·
  replace h0:=bz h0
  have lQ:xs.length=ys.length:=by omega
  refine Gc ?_
  iterate 3 refine Gs ?_
  refine Gc ?_
  refine ca (X:=Nat) (fun zz=>[(13, .int .i64 (zz:Nat)),(0,x.val),(1,y.val),(12, .int .i64 (xs.length:Nat))]) (fun zz=>[]) (fun zz=>zz≤xs.length∧ ∀j,j<zz→xs[j]? =ys[j]?) (fun zz=>xs.length -zz) 0 ⟨Nat.zero_le _,fun j hj=>by first|omega|(simp only[];omega)⟩ (Sub.cons rfl (Sub.cons rfl (Sub.cons rfl (Sub.cons rfl (Sub.nil _))))) (fun w hw=>ah.mem hw) ?_
  rintro i ⟨bh,aF⟩
  refine Gc ?_
  refine Gs ?_
  refine Gc ?_
  refine au rfl (fun h1=> ?_) (fun h1=> ?_)
  ·
   replace h1:=bz h1
   obtain⟨p,iB⟩:=get_some (xs:=xs) (i:=i) (by omega)
   obtain⟨q,nU⟩:=get_some (xs:=ys) (i:=i) (by omega)
   refine Gc ?_
   iterate 2 refine Gs ?_
   refine Gc ?_
   refine gO (by kernel_rfl) (by kernel_rfl) ?_
   iterate 2 refine Gq ?_
   refine bc (bg rfl rfl i rfl (by omega)) ?_
   refine bc (gG rfl i iB rfl) ?_
   iterate 2 refine Gq ?_
   refine bc (bg rfl rfl i rfl (by omega)) ?_
   refine bc (gG rfl i nU rfl) ?_
   refine bc (DL rfl rfl) ?_
   refine Gc ?_
   refine au rfl (fun h2=> ?_) (fun h2=> ?_)
   ·
    replace h2:=bz h2
    have hz:decide (xs=ys)=false:=decide_eq_false fun e=>h2 (by rw[e]at iB;rw[iB]at nU;cases nU;rfl)
    refine Gc ?_
    refine Gs ?_
    refine Gc ?_
    refine aq (.inl rfl) (aI rfl (ak rfl)) (fun w1 hw=> ?_)
    exact⟨congrArg (fun b=>Ending.returned (Value.bool b)) (hz.symm),ah.mem hw⟩
   ·
    replace h2:=bz h2
    refine Gc ?_
    iterate 2 refine Gs ?_
    refine Gi ?_
    exact bx (x:=(i)) (i+1) ⟨by first|omega|(simp only[];omega),fun j hj=>if e:j=i then(by subst e;rw[iB,nU,h2])else aF j (by first|omega|(simp only[];omega))⟩ (by first|omega|(simp only[];omega)) (Sub.cons rfl (Sub.cons rfl (Sub.cons rfl (Sub.cons rfl (Sub.nil _))))) (fun w hw=>ah.mem hw)
  ·
   replace h1:=bz h1
   obtain rfl:i=xs.length:=by omega
   have hz:decide (xs=ys)=true:=decide_eq_true (List.ext_getElem? fun j=>by
    rcases Nat.lt_or_ge j xs.length with hj|hj
    ·
     exact aF j hj
    ·
     rw[List.getElem?_eq_none hj,List.getElem?_eq_none (by omega)])
   refine Gc ?_
   refine Gs ?_
   refine Gc ?_
   refine aq (.inl rfl) (aI rfl (ak rfl)) (fun w1 hw=> ?_)
   exact⟨congrArg (fun b=>Ending.returned (Value.bool b)) (hz.symm),ah.mem hw⟩
instance aiP{w0:World}{L:List ai}{x:Sv}{xs:List Rt}{y:Sv}{ys:List Rt}[hx:c0 w0 L ay 19 x xs][hy:c0 w0 L ay 19 y ys]:cB Tryz.prog 105 w0 L [x.val,y.val] (.bool (decide (xs=ys))) (True):=⟨fun hp w hw=>Yz w x xs y ys (hx.h w hw) (hy.h w hw)⟩
theorem YA(w:World)(f:cm)(hf:Deep.aY (hp w) f):Calls Tryz.prog 62 #[.agg (bO f)] w fun e w'=> ∃zz:Sl (Sl UInt8),e= .returned (.tuple #[zz.sv.val, .bool (gh (bE f))])∧(gh (bE f)=true→lx zz=jA {(bE f).an.ae with off:=false})∧Mem w [fz zz] w':=by
 have zZ:cg w f:=⟨hf⟩
 refine ba (args:=[_]) Tryz.func62 rfl Tryz.ntmps62 rfl ?_
 change Cw _ _ _ _ _ [(0, .agg (bO f))] []
 refine Gc ?_
 refine bX rfl fun b1=> ?_
 iterate 2 refine Gs ?_
 refine Gc ?_
 iterate 2 refine Gs ?_
 refine ag (iA rfl) ?_
 refine bK fun b4=> ?_
 refine Gs ?_
 refine Gc ?_
 refine Gs ?_
 refine eN (cs':=aB (⟨f.an.ae.pages,f.an.ae.size,f.an.ae.blocks,f.an.ae.ops,false,f.an.ae.aR⟩:Cp)) rfl rfl (by show 4<6;decide) (by first|rfl|exact Sv.one _) rfl ?_
 refine Gc ?_
 refine Gs ?_
 refine bq rfl trivial fun lY xx=> ?_
 have CY:bE lY.1=(dg {(bE f).an.ae with off:=false}).1:=xx.1
 have g1:lY.1.an.gen.toNat=(dg {(bE f).an.ae with off:=false}).1.an.gen:=congrArg (fun z:FV=>z.an.gen) CY
 have g2:lY.1.an.last=(dg {(bE f).an.ae with off:=false}).1.an.last:=congrArg (fun z:FV=>z.an.last) CY
 have g3:lY.1.an.at_.xs=(dg {(bE f).an.ae with off:=false}).1.an.at_:=congrArg (fun z:FV=>z.an.at_) CY
 have g4:lY.1.table.xs=(dg {(bE f).an.ae with off:=false}).1.table:=congrArg FV.table CY
 have hS:gh (bE f)=true↔(dg {(bE f).an.ae with off:=false}).2=0∧f.an.gen.toNat=lY.1.an.gen.toNat∧f.an.last=lY.1.an.last∧f.an.at_.xs=lY.1.an.at_.xs∧f.table.xs=lY.1.table.xs:=by rw[FT,g1,g2,g3,g4];rfl
 refine Gs ?_
 refine ag (aV (v:= .agg (bO lY.1)) rfl rfl) ?_
 refine ag (aV (v:=lY.2.sv.val) rfl rfl) ?_
 refine ag (aV (v:= .int .i64 ((dg (cv (⟨f.an.ae.pages,f.an.ae.size,f.an.ae.blocks,f.an.ae.ops,false,f.an.ae.aR⟩:Cp))).2)) rfl rfl) ?_
 refine bK fun b5=> ?_
 iterate 3 refine Gs ?_
 refine Gc ?_
 iterate 3 refine Gs ?_
 refine Gg ?_
 refine bZ rfl rfl rfl (fun hg=>(Ry.yl (aH (o':=7) (aG hg rfl) rfl))) ?_
 iterate 2 refine Gg ?_
 refine bZ rfl rfl rfl (fun hg=>(Ry.yl (aH (o':=7) (aG hg rfl) rfl))) ?_
 iterate 2 refine Gg ?_
 iterate 2 refine Gs ?_
 refine Gg ?_
 refine bZ rfl rfl rfl (fun hg=>(Ry.yl (aH (o':=8) (aG hg rfl) rfl))) ?_
 iterate 2 refine Gg ?_
 refine bZ rfl rfl rfl (fun hg=>(Ry.yl (aH (o':=8) (aG hg rfl) rfl))) ?_
 iterate 2 refine Gg ?_
 refine Gs ?_
 refine Gc ?_
 refine au rfl (fun h0=> ?_) (fun h0=> ?_)
 ·
  replace h0:=bz h0
  have hE:gh (bE f)=false:=by
   cases hk:gh (bE f)with
   |false=>rfl
   |true=>
    obtain⟨q1,q2,q3,q4,q5⟩:=hS.1 hk
    rcases h0 with(h|h)|h
    ·
     exact absurd q1 h
    ·
     omega
    ·
     exact absurd q3 h
  refine Gc ?_
  iterate 2 refine Gs ?_
  refine Gc ?_
  refine aq (.inl rfl) (bm rfl (ak rfl) (ak rfl)) (fun w1 hw=> ?_)
  exact⟨⟨Sv.none,[]⟩,by rw[hE];rfl,(fun h=>by rw[hE]at h;cases h),wZ (ah.mem hw:Mem w [] _)⟩
 ·
  replace h0:=bz h0
  refine Gc ?_
  iterate 9 refine Gs ?_
  iterate 4 refine Gg ?_
  refine bZ rfl rfl rfl (fun hg=>cC (dA (aG hg rfl) (dA (aG hg rfl) gE)) trivial) ?_
  refine bZ rfl rfl rfl (fun hg=>(Ry.yl (iR (aG hg rfl)))) ?_
  refine Gs ?_
  refine Gc ?_
  refine au rfl (fun h1=> ?_) (fun h1=> ?_)
  ·
   replace h1:=bz h1
   have hE:gh (bE f)=false:=by
    cases hk:gh (bE f)with
    |false=>rfl
    |true=>
     obtain⟨q1,q2,q3,q4,q5⟩:=hS.1 hk
     rcases h1 with h|h
     ·
      exact absurd q4 h
     ·
      exact absurd q5 h
   refine Gc ?_
   iterate 2 refine Gs ?_
   refine Gc ?_
   refine aq (.inl rfl) (bm rfl (ak rfl) (ak rfl)) (fun w1 hw=> ?_)
   exact⟨⟨Sv.none,[]⟩,by rw[hE];rfl,(fun h=>by rw[hE]at h;cases h),wZ (ah.mem hw:Mem w [] _)⟩
  ·
   replace h1:=bz h1
   have hE:gh (bE f)=true:=hS.2 ⟨h0.1.1,by have:=h0.1.2;omega,h0.2,h1.1,h1.2⟩
   refine Gc ?_
   iterate 3 refine Gs ?_
   refine Gc ?_
   refine aq (.inl rfl) (bm rfl (ak rfl) (ak rfl)) (fun w1 hw=> ?_)
   exact⟨lY.2,by rw[hE],(fun _=>xx.2),ah.mem hw⟩
instance aiQ{w0:World}{L:List ai}{f:cm}[hf:aU w0 L f]:cl Tryz.prog 62 w0 L [.agg (bO f)] (Sl (Sl UInt8)) (fun zz=> .tuple #[zz.sv.val, .bool (gh (bE f))]) (fun zz=>fz zz::L) (fun zz=>gh (bE f)=true→lx zz=jA {(bE f).an.ae with off:=false}) (True):=⟨fun hp w hw=>(YA w f (hf.h w hw)).mono fun e w' ⟨x,h1,h2,h3⟩=>⟨x,h1,h2,hw.call h3⟩⟩
theorem YB(w:World)(f:cm)(hf:Deep.aY (hp w) f):Calls Tryz.prog 28 #[.agg (bO f)] w fun e w'=>e= .returned (.bool (gh (bE f)))∧Mem w [] w':=by
 have zZ:cg w f:=⟨hf⟩
 refine ba (args:=[_]) Tryz.func28 rfl Tryz.ntmps28 rfl ?_
 change Cw _ _ _ _ _ [(0, .agg (bO f))] []
 refine Gc ?_
 refine bX rfl fun b1=> ?_
 refine Gs ?_
 refine Gc ?_
 refine Gs ?_
 refine bq rfl trivial fun x7 hp7=> ?_
 refine Gs ?_
 refine ag (aV (v:=x7.sv.val) rfl rfl) ?_
 refine ag (aV (v:= .bool (gh (bE f))) rfl rfl) ?_
 iterate 2 refine Gs ?_
 refine Gc ?_
 iterate 2 refine Gs ?_
 refine Gc ?_
 refine aq (.inl rfl) (aI rfl (ak rfl)) (fun w1 hw=> ?_)
 exact⟨congrArg (fun b=>Ending.returned (Value.bool b)) (rfl),ah.mem hw⟩
instance aiR{w0:World}{L:List ai}{f:cm}[hf:aU w0 L f]:cB Tryz.prog 28 w0 L [.agg (bO f)] (.bool (gh (bE f))) (True):=⟨fun hp w hw=>YB w f (hf.h w hw)⟩
theorem YC(w:World)(c:Cp)(hc:Deep.aY (hp w) c):Calls Tryz.prog 21 #[.agg (aB c)] w fun e w'=> ∃zz:cm,e= .returned (.tuple #[.agg (bO zz), .int .i64 ((dg (cv c)).2)])∧(bE zz=(dg (cv c)).1)∧Mem w [fz zz] w':=by
 have jR:cg w c:=⟨hc⟩
 refine ba (args:=[_]) Tryz.func21 rfl Tryz.ntmps21 rfl ?_
 change Cw _ _ _ _ _ [(0, .agg (aB c))] []
 refine Gc ?_
 refine bX rfl fun b1=> ?_
 refine bK fun b2=> ?_
 refine Gs ?_
 refine Gc ?_
 refine Gs ?_
 refine bq rfl trivial fun x9 zt=> ?_
 refine Gs ?_
 refine ag (aV (v:= .agg (bO x9.1)) rfl rfl) ?_
 refine ag (aV (v:=x9.2.sv.val) rfl rfl) ?_
 refine ag (aV (v:= .int .i64 ((dg (cv c)).2)) rfl rfl) ?_
 refine bK fun b4=> ?_
 iterate 3 refine Gs ?_
 refine Gc ?_
 iterate 4 refine Gs ?_
 refine Gc ?_
 refine aq (.inl rfl) (bm rfl (cc rfl) (ak rfl)) (fun w1 hw=> ?_)
 exact⟨x9.1,rfl,zt.1,ah.mem hw⟩
instance aiS{w0:World}{L:List ai}{c:Cp}[hc:aU w0 L c]:cl Tryz.prog 21 w0 L [.agg (aB c)] (cm) (fun zz=> .tuple #[.agg (bO zz), .int .i64 ((dg (cv c)).2)]) (fun zz=>fz zz::L) (fun zz=>bE zz=(dg (cv c)).1) (True):=⟨fun hp w hw=>(YC w c (hc.h w hw)).mono fun e w' ⟨x,h1,h2,h3⟩=>⟨x,h1,h2,hw.call h3⟩⟩
theorem YD(w:World)(f:cm)(k:Key)(bits:Int)(hf:Deep.aY (hp w) f):Calls Tryz.prog 27 #[.agg (bO f), .agg (cW k), .int .i64 bits] w fun e w'=>e= .returned (.tuple #[.agg (ay (vb (bE f) k bits)), .int .i64 (vc (bE f) k bits)])∧Mem w [] w':=by
 have zZ:cg w f:=⟨hf⟩
 refine ba (args:=[_,_,_]) Tryz.func27 rfl Tryz.ntmps27 rfl ?_
 change Cw _ _ _ _ _ [(0, .agg (bO f)),(1, .agg (cW k)),(2, .int .i64 bits)] []
 refine Gc ?_
 refine bX rfl fun b3=> ?_
 refine bX rfl fun b4=> ?_
 refine bK fun b6=> ?_
 refine Gs ?_
 refine Gc ?_
 iterate 3 refine Gs ?_
 refine Gc ?_
 refine au rfl (fun h0=> ?_) (fun h0=> ?_)
 ·
  replace h0:=bz h0
  refine Gc ?_
  refine ag (sS rfl) ?_
  iterate 2 refine Gs ?_
  refine Gc ?_
  refine aq (.inl rfl) (bm rfl (cc rfl) (ak rfl)) (fun w1 hw=> ?_)
  exact⟨(by rw[vb,vc,if_neg (by rw[h0];simp),if_neg (by rw[h0];simp)]),ah.mem hw⟩
 ·
  replace h0:=bz h0
  refine Gc ?_
  iterate 5 refine Gs ?_
  refine ag (aV (v:= .agg (ay (u7 f.table.xs k bits))) rfl rfl) ?_
  refine ag (aV (v:= .int .i64 (u9 f.table.xs k bits)) rfl rfl) ?_
  iterate 2 refine Gs ?_
  refine Gc ?_
  refine aq (.inl rfl) (bm rfl (cc rfl) (ak rfl)) (fun w1 hw=> ?_)
  exact⟨(by rw[vb,vc,if_pos h0,if_pos h0];rfl),ah.mem hw⟩
instance aiT{w0:World}{L:List ai}{f:cm}{k:Key}{bits:Int}[hf:aU w0 L f]:cB Tryz.prog 27 w0 L [.agg (bO f), .agg (cW k), .int .i64 bits] (.tuple #[.agg (ay (vb (bE f) k bits)), .int .i64 (vc (bE f) k bits)]) (True):=⟨fun hp w hw=>YD w f k bits (hf.h w hw)⟩
open Go.aC Go.Kb
open Go.RowKit
theorem M0(v:bM)(w:World):(Instr.build 54 #[(0, .agg (bF v))]).run Tryz.prog w= .ok (.agg (bO ⟨v,⟨Sv.none,[]⟩⟩)) w:=by
 obtain⟨⟨a1,a2,⟨a3,a4⟩,a5,a6,⟨a7,a8⟩⟩,⟨a9,Yd⟩,Ye,Yf⟩:=v
 unfold bO bF
 obtain⟨e3,b3,o3,l3,c3,p3⟩:=a3
 obtain⟨e7,b7,o7,l7,c7,p7⟩:=a7
 obtain⟨e9,b9,o9,l9,c9,p9⟩:=a9
 cases e3<;>cases e7<;>cases e9<;>kernel_rfl
theorem M1{w0 w:World}{L:List ai}{v:bM}(h:Mem w0 (fz v.ae::fz v.at_::L) w):Mem w0 (fz (⟨v,⟨Sv.none,[]⟩⟩:cm)::L) w:=
 Cm (f:=⟨v,⟨Sv.none,[]⟩⟩) ((vd (a:=⟨Sv.none,[]⟩) (Mem.dP ay 19 h)).perm ((List.Perm.swap _ _ _).trans (List.Perm.cons _ (List.Perm.swap _ _ _))))
theorem YE(w:World)(c:Cp)(hc:Deep.aY (hp w) c)(bb:dQ c):Calls Tryz.prog 33 #[.agg (aB c)] w fun e w'=> ∃zz:cm,e= .returned (.tuple #[.agg (bO zz), .int .i64 ((nO (cv c)).2)])∧(bE zz=(nO (cv c)).1)∧Mem w [fz zz] w':=by
 have jR:cg w c:=⟨hc⟩
 have kf:dQ c:=bb
 refine ba (args:=[_]) Tryz.func33 rfl Tryz.ntmps33 rfl ?_
 change Cw _ _ _ _ _ [(0, .agg (aB c))] []
 refine Gc ?_
 refine bX rfl fun b1=> ?_
 refine bK fun b2=> ?_
 refine Gs ?_
 refine Gc ?_
 iterate 3 refine Gs ?_
 refine Gc ?_
 refine au rfl (fun h0=> ?_) (fun h0=> ?_)
 ·
  replace h0:=bz h0
  have hE:nO (cv c)=(⟨⟨cv c,[],0,0⟩,[]⟩,1):=by rw[nO,if_pos h0]
  refine Gc ?_
  refine Gs ?_
  refine bq rfl (by assumption) fun vw YF=> ?_
  refine ag (cR (v:= .agg (bF (⟨vw,⟨Sv.none,[]⟩,0,0⟩:bM))) rfl (zP vw)) ?_
  refine ag (cR (v:= .agg (bO (⟨(⟨vw,⟨Sv.none,[]⟩,0,0⟩:bM),⟨Sv.none,[]⟩⟩:cm))) rfl (M0 (⟨vw,⟨Sv.none,[]⟩,0,0⟩:bM))) ?_
  iterate 2 refine Gs ?_
  refine Gc ?_
  refine aq (.inl rfl) (bm rfl (cc rfl) (ak rfl)) (fun w1 hw=> ?_)
  exact⟨(⟨(⟨vw,⟨Sv.none,[]⟩,0,0⟩:bM),⟨Sv.none,[]⟩⟩:cm),by rw[hE],by rw[hE];simp only[bE,vv,YF];rfl,M1 (v:=(⟨vw,⟨Sv.none,[]⟩,0,0⟩:bM)) (ah.mem (zQ (ah.mem hw:Mem w [fz vw] _)))⟩
 ·
  replace h0:=bz h0
  have hE:nO (cv c)=(⟨(lX (cv c) (dK (cv c))).1,[]⟩,(lX (cv c) (dK (cv c))).2):=by rw[nO,if_neg h0]
  refine Gc ?_
  refine qa [3,7,8,2007,4003] [[],[],[],[],[3],[3],[3],[],[3,7],[3,7,8]] [0,1,2,3,4,5,6,7,8,9] [ar b1 (aB c) 25] [(7,kR Tryz.prog 29)] (by kernel_rfl) (fun _ hw=>ah.mem hw) (by kernel_rfl) (by kernel_rfl) ?_
  refine al rfl (fI rfl) ?_
  refine al rfl (fI rfl) ?_
  refine uP rfl (cC rfl trivial) ?_
  refine sd rfl rfl (by assumption) (fun e x w hw=>ah.mem hw) (Cert.one (i:=7) rfl rfl rfl jX (Cert.none rfl)) fun fG zN=>⟨fun _ hw=>ah.mem hw,?_⟩
  refine al rfl (aD rfl) ?_
  refine al rfl (aV (v:= .agg (bF (⟨fG.1,fG.2.1,fG.2.2.1,fG.2.2.2⟩:bM))) rfl rfl) ?_
  refine al rfl (aV (v:= .int .i64 ((lX (cv c) (dK (cv c))).2)) rfl rfl) ?_
  refine oy (m:=kR Tryz.prog 29) rfl rfl jX (Cert.none rfl) fun b4=> ?_
  change Ln _ _ _ _ _ _ _ _ (cw _ _ (.pointer (some ⟨b4,0,none⟩))) (ar b4 (bF kU) 29::_) _
  refine dE rfl (ox rfl rfl ⟨fun _ hw=>ah.mem hw,?_⟩)
  refine al rfl (bl rfl) ?_
  refine Gc ?_
  refine Gs ?_
  refine ag (cR (v:= .agg (bO (⟨(⟨fG.1,fG.2.1,fG.2.2.1,fG.2.2.2⟩:bM),⟨Sv.none,[]⟩⟩:cm))) rfl (M0 (⟨fG.1,fG.2.1,fG.2.2.1,fG.2.2.2⟩:bM))) ?_
  iterate 3 refine Gs ?_
  refine Gc ?_
  refine aq (.inl rfl) (bm rfl (cc rfl) (ak rfl)) (fun w1 hw=> ?_)
  exact⟨(⟨(⟨fG.1,fG.2.1,fG.2.2.1,fG.2.2.2⟩:bM),⟨Sv.none,[]⟩⟩:cm),by rw[hE],by rw[hE];simp only[bE,vv,zN],M1 (v:=(⟨fG.1,fG.2.1,fG.2.2.1,fG.2.2.2⟩:bM)) (ah.mem hw)⟩
instance aiU{w0:World}{L:List ai}{c:Cp}[hc:aU w0 L c]:cl Tryz.prog 33 w0 L [.agg (aB c)] (cm) (fun zz=> .tuple #[.agg (bO zz), .int .i64 ((nO (cv c)).2)]) (fun zz=>fz zz::L) (fun zz=>bE zz=(nO (cv c)).1) (dQ c):=⟨fun hp w hw=>(YE w c (hc.h w hw) hp).mono fun e w' ⟨x,h1,h2,h3⟩=>⟨x,h1,h2,hw.call h3⟩⟩
theorem YG{w0 w:World}{L:List ai}{f:cm}{a:Sl Rt}(h:Mem w0 (fz f::own ay 19 a.sv a.xs::L) w):Mem w0 (fz (⟨f.an,a⟩:cm)::L) w:=by
 have h2:=(vd (a:=a) (h.perm (List.Perm.swap _ _ _))).perm (List.Perm.swap _ _ _)
 refine Mem.freeze (es:=[fz f,fz a]) (⟨f.an,a⟩:cm) ⟨(h2.sat (fz f) (by simp)).1,h2.sat (fz a) (by simp)⟩ (fun k hk=> ?_) h2
 rcases hk with hk|hk
 ·
  exact⟨fz f,by simp, .inl hk⟩
 ·
  exact⟨fz a,by simp,hk⟩
theorem YH(w:World)(f:cm)(hf:Deep.aY (hp w) f)(bb:dQ f.an.ae∧f.an.at_.xs.length≤1000000∧f.table.xs.length≤1000000):Calls Tryz.prog 75 #[.agg (bO f)] w fun e w'=> ∃zz:cm,e= .returned (.agg (bO zz))∧(bE zz=bE f)∧Mem w [fz zz] w':=by
 have zZ:cg w f:=⟨hf⟩
 obtain⟨kG,iK,nQ⟩:=bb
 refine ba (args:=[_]) Tryz.func75 rfl Tryz.ntmps75 rfl ?_
 change Cw _ _ _ _ _ [(0, .agg (bO f))] []
 refine Gc ?_
 refine bX rfl fun b1=> ?_
 refine bK fun b2=> ?_
 refine Gc ?_
 iterate 2 refine Gs ?_
 refine ag (iA rfl) ?_
 refine bq rfl kG fun x6 L8=> ?_
 iterate 2 refine Gs ?_
 refine yp (cs':=bO ({f with an:=({f.an with ae:=x6}:bM)}:cm)) rfl rfl (by show 0+6≤10;decide) rfl ?_
 refine Gc ?_
 iterate 3 refine Gs ?_
 refine bq rfl iK fun pJ GK=> ?_
 iterate 2 refine Gs ?_
 refine eN (cs':=bO ({f with an:=({f.an with ae:=x6,at_:=⟨pJ,f.an.at_.xs⟩}:bM)}:cm)) rfl rfl (by show 6<10;decide) (by first|rfl|exact Sv.one _) rfl ?_
 refine Gc ?_
 iterate 2 refine Gs ?_
 refine bq rfl nQ fun fG zN=> ?_
 refine Gs ?_
 refine eN (cs':=bO (⟨({f.an with ae:=x6,at_:=⟨pJ,f.an.at_.xs⟩}:bM),⟨fG,f.table.xs⟩⟩:cm)) rfl rfl (by show 9<10;decide) (by first|rfl|exact Sv.one _) rfl ?_
 refine Gc ?_
 iterate 2 refine Gs ?_
 refine Gc ?_
 refine aq (.inl rfl) (aI rfl (cc rfl)) (fun w1 hw=> ?_)
 exact⟨(⟨({f.an with ae:=x6,at_:=⟨pJ,f.an.at_.xs⟩}:bM),⟨fG,f.table.xs⟩⟩:cm),rfl,by simp only[bE,vv,L8],LS (f:=(⟨({f.an with ae:=x6,at_:=⟨pJ,f.an.at_.xs⟩}:bM),⟨fG,f.table.xs⟩⟩:cm)) (ah.mem hw)⟩
instance aiV{w0:World}{L:List ai}{f:cm}[hf:aU w0 L f]:cl Tryz.prog 75 w0 L [.agg (bO f)] (cm) (fun zz=> .agg (bO zz)) (fun zz=>fz zz::L) (fun zz=>bE zz=bE f) (dQ f.an.ae∧f.an.at_.xs.length≤1000000∧f.table.xs.length≤1000000):=⟨fun hp w hw=>(YH w f (hf.h w hw) hp).mono fun e w' ⟨x,h1,h2,h3⟩=>⟨x,h1,h2,hw.call h3⟩⟩
end Go.Proofs.YtaipiecplldinaaGreat
namespace Go.Kb
open Go.aC
theorem M3{p q:dh}(h:dV p q=true):c5 p=true∧c5 q=true:=by
 simp only[dV,Bool.and_eq_true]at h
 exact⟨h.1.1,h.1.2⟩
theorem YI{p q r:dh}(h:dV p q=true)(h':dV q r=true):dV p r=true:=by
 obtain⟨hp,hq⟩:=M3 h
 obtain⟨_,hr⟩:=M3 h'
 rw[lN hp hq]at h
 rw[lN hq hr]at h'
 rw[lN hp hr]
 omega
def tok(ps:List dh):Prop:=ps.length≤256∧(∀p∈ps,c5 p=true)∧ps.Pairwise fun p q=>dV p q=true
theorem M4(xs:List Rt): ∀n,n≤xs.length→(pZ xs n=true↔(∀p∈(xs.take n).map (·.p),c5 p=true)∧((xs.take n).map (·.p)).Pairwise fun p q=>dV p q=true)
 |0,_=>by simp[I5]
 |n+1,h=>by
  obtain⟨r,hr⟩:=get_some (xs:=xs) (i:=n) (by omega)
  have e:xs.take (n+1)=xs.take n++[r]:=by rw[List.take_add_one,hr];rfl
  rw[D7,Bool.and_eq_true,M4 xs n (by omega),e,List.map_append,List.pairwise_append]
  simp only[List.map_cons,List.map_nil,List.mem_append,List.mem_singleton,List.pairwise_cons,List.not_mem_nil,false_implies,implies_true,List.Pairwise.nil,and_self,true_and,and_true]
  cases n with
  |zero=>rw[D8 hr];simp
  |succ m=>
   obtain⟨q,hq⟩:=get_some (xs:=xs) (i:=m) (by omega)
   rw[A8 hr hq,Bool.and_eq_true]
   have e2:xs.take (m+1)=xs.take m++[q]:=by rw[List.take_add_one,hq];rfl
   constructor
   ·
    rintro⟨⟨h1,h2⟩,h3,h4⟩
    refine⟨fun p hp=>hp.elim (h1 p) (fun e=>e▸h3),h2,fun p hp b hb=> ?_⟩
    subst hb
    rw[e2,List.map_append]at hp h2
    rcases List.mem_append.1 hp with hp|hp
    ·
     have:=(List.pairwise_append.1 h2).2.2 p hp q.p (by simp)
     exact YI this h4
    ·
     have:p=q.p:=by simpa using hp
     rw[this];exact h4
   ·
    rintro⟨h1,h2,h3⟩
    refine⟨⟨fun p hp=>h1 p (.inl hp),h2⟩,h1 _ (.inr rfl),h3 q.p ?_ _ rfl⟩
    rw[e2];simp
theorem YJ(xs:List Rt):dr xs=true↔tok (xs.map (·.p)):=by
 rw[dr,Bool.and_eq_true,M4 xs _ (Nat.le_refl _),List.take_length,decide_eq_true_iff]
 simp[tok]
theorem YK{xs:List Rt}(h:dr xs=true): ∀r∈xs,c5 r.p=true:=fun r hr=>((YJ xs).1 h).2.1 r.p (List.mem_map_of_mem hr)
theorem YL{r:Rt}(h:c5 r.p=true):rd (eJ r)=some r:=by
 obtain⟨h1,h2,h3,-⟩:=(A6 r.p).1 h
 have e0:(eJ r).getD 0 0=if r.p.bits=128 then 1 else 0:=by simp[List.getD,J7]
 have e1:(eJ r).getD 1 0=cM r.p.len:=by simp[List.getD,J8]
 have CU:(eJ r).getD 18 0=b8 (r.dN.toNat/256):=by simp[List.getD,Ka]
 have M5:(eJ r).getD 19 0=b8 r.dN.toNat:=by simp[List.getD,Kc]
 have ok:nN (eJ r)=true:=by
  rw[nN,e0];split<;>decide
 rw[Li,if_pos ok]
 congr 1
 obtain⟨⟨b,l,k⟩,dN⟩:=r
 simp only at h1 h2 h3 e0 e1 CU M5
 have ek:(oo fun i=>((eJ ⟨⟨b,l,k⟩,dN⟩).getD (2+i) 0).toNat)=k:=by
  refine yD fun i hi=> ?_
  rw[yE _ _ hi]
  simp only[List.getD,J9 _ i hi,Option.getD_some,pV]
  have:=om k i
  omega
 have el:((cM l).toNat:Int)=l:=by
  obtain⟨n,rfl⟩: ∃n:Nat,l=n:=⟨l.toNat,by omega⟩
  rw[Sy,pV];omega
 have eh:qT (b8 (dN.toNat/256)) (b8 dN.toNat)=dN:=by
  apply UInt16.toNat_inj.1
  have:=dN.toNat_lt
  rw[D3,pV,pV];omega
 show(⟨⟨if(eJ ⟨⟨b,l,k⟩,dN⟩).getD 0 0=1 then 128 else 32,((eJ ⟨⟨b,l,k⟩,dN⟩).getD 1 0).toNat,oo fun i=>((eJ ⟨⟨b,l,k⟩,dN⟩).getD (2+i) 0).toNat⟩,qT ((eJ ⟨⟨b,l,k⟩,dN⟩).getD 18 0) ((eJ ⟨⟨b,l,k⟩,dN⟩).getD 19 0)⟩:Rt)=_
 rw[ek,e0,e1,CU,M5,el,eh]
 congr 2
 rcases h1 with rfl|rfl<;>simp
theorem M6: ∀{l:List Rt},(∀r∈l,c5 r.p=true)→lu (l.flatMap eJ)=some l
 |[],_=>Lc
 |r::l,h=>by
  rw[List.flatMap_cons,FE (by rw[List.length_append,oC];omega),List.take_left' (oC r),List.drop_left' (oC r),YL (h r (by simp)),M6 fun r hr=>h r (by simp[hr])]
  rfl
theorem M7{t:List Rt}(n:Nat)(h: ∀r∈t,c5 r.p=true): ∀k,gg (kD t k n)=some (t.take (k*n))
 |0=>by simp[kD,gg]
 |k+1=>by
  rw[TB,Cc,M7 n h k,Option.bind_some,gg,gg,pz,M6 fun r hr=>h r (List.mem_of_mem_drop (List.mem_of_mem_take hr))]
  simp only[Option.map_some,Option.bind_some,List.append_nil,Option.some.injEq]
  rw[Nat.add_mul,Nat.one_mul,List.take_add]
theorem M8{t:List Rt}{ids room:Int}(h:jc t ids room=0):jd (jO t ids room)=t∧jP (jO t ids room)=0:=by
 obtain⟨h1,h2,h3⟩: ¬iN ids room=0∧dr t=true∧ ¬iN ids room<t.length:=by
  unfold jc at h
  split at h
  ·
   cases h
  ·
   rename_i hn
   split at h
   ·
    cases h
   ·
    rename_i hm
    exact⟨fun e=>hn (.inr e),by cases hr:dr t;exact absurd (.inl hr) hn;rfl,hm⟩
 have hm:=Cb h1
 obtain⟨_,hV⟩:=FI h1 h2 h3
 have oN:ids*(room/20)=((ids.toNat*(room/20).toNat:Nat):Int):=by
  rw[Int.natCast_mul,Int.toNat_of_nonneg (by omega),Int.toNat_of_nonneg (by omega)]
 have hu:gg (jO t ids room)=some t:=by
  rw[hV,M7 _ (YK h2),List.take_of_length_le (by omega)]
 exact FG hu h2
theorem G8{t:List Rt}{ids room:Int}(h:jc t ids room=0): ¬iN ids room=0∧dr t=true∧ ¬iN ids room<t.length∧jO t ids room=kD t ids.toNat (room/20).toNat:=by
 unfold jc at h
 split at h
 ·
  cases h
 ·
  rename_i hn
  split at h
  ·
   cases h
  ·
   rename_i hm
   have h1: ¬iN ids room=0:=fun e=>hn (.inr e)
   have h2:dr t=true:=by cases hr:dr t;exact absurd (.inl hr) hn;rfl
   exact⟨h1,h2,hm,(FI h1 h2 hm).2⟩
theorem YM{t:List Rt}{ids room:Int}(h: ¬jc t ids room=0):jO t ids room=[]:=by rw[jO,if_neg h]
theorem z8{t:List Rt}{ids room:Int}(h:jc t ids room=0):((jO t ids room).length:Int)=ids∧1≤ids∧ids≤64:=by
 obtain⟨h1,_,_,hV⟩:=G8 h
 have:=Cb h1
 rw[hV,tB];omega
theorem YN{t:List Rt}{ids room:Int}:(jO t ids room).length≤64∧ ∀x∈jO t ids room,x.length≤240:=by
 by_cases h:jc t ids room=0
 ·
  have h2:=z8 h
  obtain⟨h1,_,_,hV⟩:=G8 h
  have hm:=Cb h1
  refine⟨by omega,fun x hx=> ?_⟩
  rw[hV]at hx
  obtain⟨j,_,rfl⟩:=List.mem_map.1 hx
  have:=FD t (room/20).toNat j
  omega
 ·
  rw[YM h];simp
theorem M9(a:List (List UInt8)):eu a a=[]:=by
 rw[eu,mz,List.filterMap_eq_nil_iff]
 intro i _
 rw[rv,if_pos rfl]
theorem YO{a b:List (List UInt8)}(hl:a.length=b.length):eu a b=[]↔a=b:=by
 refine⟨fun h=> ?_,fun h=>by rw[h,M9]⟩
 rw[eu,mz,List.filterMap_eq_nil_iff,hl,Nat.max_self]at h
 refine List.ext_getElem? fun i=> ?_
 by_cases hi:i<b.length
 ·
  have:=h i (List.mem_range.2 hi)
  unfold rv at this
  split at this
  ·
   rename_i he
   rw[List.getElem?_eq_getElem (by omega),List.getElem?_eq_getElem hi]
   simpa[List.getD,hi,show i<a.length by omega]using he
  ·
   cases this
 ·
  rw[List.getElem?_eq_none (by omega),List.getElem?_eq_none (by omega)]
theorem G9{a b:List (List UInt8)}{n:Nat}{p:Int×List UInt8}(h:p∈mz a b n): ∃i:Nat,i<n∧p=((i:Int),b.getD i [])∧ ¬a.getD i []=b.getD i []:=by
 rw[mz,List.mem_filterMap]at h
 obtain⟨i,hi,he⟩:=h
 unfold rv at he
 split at he
 ·
  cases he
 ·
  rename_i hn
  exact⟨i,List.mem_range.1 hi,(Option.some.inj he).symm,hn⟩
theorem CZ(a b:List (List UInt8)): ∀n,(mz a b n).Pairwise fun p q=>p.1<q.1
 |0=>List.Pairwise.nil
 |n+1=>by
  by_cases h:a.getD n []=b.getD n []
  ·
   rw[Lg h];exact CZ a b n
  ·
   rw[Lh h,List.pairwise_append]
   refine⟨CZ a b n,List.pairwise_singleton _ _,fun p hp q hq=> ?_⟩
   obtain⟨i,hi,rfl,_⟩:=G9 hp
   obtain rfl:=List.mem_singleton.1 hq
   simp only;omega
end Go.Kb
namespace Go.Proofs.YtaipiecplldinaaGreat
open Go.aC Go.Kb
open Go.RowKit
theorem YP(w:World)(f:cm)(l:Sv)(ls:List Ch)(hf:Deep.aY (hp w) f)(hl:bQ fO 20 (hp w) l ls)(bb:dQ f.an.ae∧f.an.at_.xs.length≤1000000∧f.table.xs.length≤1000000):Calls Tryz.prog 35 #[.agg (bO f),l.val] w fun e w'=> ∃zz:cm,e= .returned (.tuple #[.agg (bO zz), .int .i64 ((cY (bE f) ls).2)])∧(bE zz=(cY (bE f) ls).1)∧Mem w [fz zz] w':=by
 have zZ:cg w f:=⟨hf⟩
 have oM:Gv w l fO 20 ls:=⟨hl⟩
 have vG:=bb
 obtain⟨kG,iK,nQ⟩:=bb
 refine ba (args:=[_,_]) Tryz.func35 rfl Tryz.ntmps35 rfl ?_
 change Cw _ _ _ _ _ [(0, .agg (bO f)),(1,l.val)] []
 refine Gc ?_
 refine bX rfl fun b2=> ?_
 refine bK fun b4=> ?_
 refine Gs ?_
 refine Gc ?_
 refine Gs ?_
 refine bq rfl trivial fun Ha YQ=> ?_
 refine Gs ?_
 refine ag (aV (v:=Ha.sv.val) rfl rfl) ?_
 refine ag (aV (v:= .bool (gh (bE f))) rfl rfl) ?_
 iterate 2 refine Gs ?_
 refine Gc ?_
 iterate 2 refine Gs ?_
 refine Gc ?_
 refine au rfl (fun h0=> ?_) (fun h0=> ?_)
 ·
  replace h0:=bz h0
  have hE:(cY (bE f) ls)=(bE f,1):=Ug h0
  refine Gc ?_
  refine Gs ?_
  refine bq rfl vG fun jh GB=> ?_
  iterate 2 refine Gs ?_
  refine Gc ?_
  refine aq (.inl rfl) (bm rfl (cc rfl) (ak rfl)) (fun w1 hw=> ?_)
  exact⟨jh,by rw[hE],by rw[hE];exact GB,ah.mem hw⟩
 ·
  replace h0:=bz h0
  have vl:lx Ha=dZ (bE f):=YQ h0
  refine Gc ?_
  iterate 3 refine Gs ?_
  refine bq rfl nQ fun kh qz=> ?_
  refine Gs ?_
  refine ag (aV (v:=kh.val) rfl rfl) ?_
  refine ag (aV (v:= .int .i64 (dS f.table.xs ls)) rfl rfl) ?_
  iterate 2 refine Gs ?_
  refine Gc ?_
  iterate 2 refine Gs ?_
  refine Gc ?_
  refine au rfl (fun h1=> ?_) (fun h1=> ?_)
  ·
   replace h1:=bz h1
   have hE:(cY (bE f) ls)=(bE f,dS f.table.xs ls):=LW h0 h1
   refine Gc ?_
   refine Gs ?_
   refine bq rfl vG fun az sE=> ?_
   iterate 3 refine Gs ?_
   refine Gc ?_
   refine aq (.inl rfl) (bm rfl (cc rfl) (ak rfl)) (fun w1 hw=> ?_)
   exact⟨az,by rw[hE],by rw[hE];exact sE,ah.mem hw⟩
  ·
   replace h1:=bz h1
   refine Gc ?_
   refine jn [10] [[],[],[],[],[],[],[],[],[],[],[],[10],[10],[10],[10],[10]] [0,1,2,3,4,5,6,7,8,9,10,11,12,13,14,15] _ (fun _ hw=>hw) (by kernel_rfl) (by kernel_rfl) ?_
   refine al rfl (aD rfl) ?_
   refine al rfl (aH (o':=0) rfl rfl) ?_
   refine al rfl (aH (o':=0) rfl rfl) ?_
   refine al rfl (iA rfl) ?_
   refine uP rfl (cC rfl trivial) ?_
   refine al rfl (aH (o':=0) rfl rfl) ?_
   refine al rfl (aH (o':=0) rfl rfl) ?_
   refine al rfl (aH (o':=1) rfl rfl) ?_
   refine al rfl (bH rfl) ?_
   refine uP rfl (cC rfl trivial) ?_
   refine dE rfl (nG rfl trivial fun qC MY=>⟨fun _ hw=>ah.mem hw,?_⟩)
   refine al rfl (aD rfl) ?_
   refine al rfl (aV (v:=qC.sv.val) rfl rfl) ?_
   refine al rfl (aV (v:= .int .i64 (jc (cH f.table.xs ls) (dK (cv f.an.ae)) (dv f.an.ae.size))) rfl rfl) ?_
   refine al rfl (bl rfl) ?_
   refine al rfl (bl rfl) ?_
   refine Gc ?_
   iterate 2 refine Gs ?_
   refine Gc ?_
   refine au rfl (fun h2=> ?_) (fun h2=> ?_)
   ·
    replace h2:=bz h2
    have hE:(cY (bE f) ls)=(bE f,(jc (cH f.table.xs ls) (dK (cv f.an.ae)) (dv f.an.ae.size))):=LX h0 h1 h2
    refine Gc ?_
    refine Gs ?_
    refine bq rfl vG fun YR YS=> ?_
    iterate 3 refine Gs ?_
    refine Gc ?_
    refine aq (.inl rfl) (bm rfl (cc rfl) (ak rfl)) (fun w1 hw=> ?_)
    exact⟨YR,by rw[hE],by rw[hE];exact YS,ah.mem hw⟩
   ·
    replace h2:=bz h2
    have pv:lx qC=dy (bE f) ls:=MY
    have xe:(dZ (bE f)).length≤64:=Uf _
    have G0:Ha.xs.length≤1000000:=by rw[←vl,uF]at xe;omega
    have CQ:(dy (bE f) ls).length≤64∧ ∀x∈dy (bE f) ls,x.length≤240:=YN
    have YT:qC.xs.length≤1000000:=by have:=CQ.1;rw[←pv,uF]at this;omega
    have YU: ∀x∈qC.xs,x.xs.length≤140737488355328:=fun x hx=>by
     have hm:x.xs∈lx qC:=List.mem_map_of_mem (f:=fun x:Sl UInt8=>x.xs) hx
     rw[pv]at hm
     have:=CQ.2 _ hm;omega
    refine Gc ?_
    iterate 2 refine Gs ?_
    refine bq rfl ⟨G0,YT,YU⟩ fun pK Na=> ?_
    refine Gs ?_
    refine Gc ?_
    iterate 3 refine Gs ?_
    refine Gc ?_
    refine au rfl (fun h3=> ?_) (fun h3=> ?_)
    ·
     replace h3:=bz h3
     have z9:eu (dZ (bE f)) (dy (bE f) ls)=[]:=by rw[←vl,←pv,←Na,uJ,List.length_eq_zero_iff.1 (by omega:pK.xs.length=0)];rfl
     have hE:(cY (bE f) ls)=(⟨(bE f).an,(cH f.table.xs ls)⟩,0):=LY h0 h1 h2 z9
     refine Gc ?_
     refine Gs ?_
     refine bq rfl vG fun C0 YV=> ?_
     refine Gs ?_
     refine Gc ?_
     iterate 2 refine Gs ?_
     refine eN (cs':=bO (⟨C0.an,⟨kh,(cH f.table.xs ls)⟩⟩:cm)) rfl rfl (by show 9<10;decide) (by first|rfl|exact Sv.one _) rfl ?_
     refine Gc ?_
     iterate 3 refine Gs ?_
     refine Gc ?_
     refine aq (.inl rfl) (bm rfl (cc rfl) (ak rfl)) (fun w1 hw=> ?_)
     exact⟨(⟨C0.an,⟨kh,(cH f.table.xs ls)⟩⟩:cm),by rw[hE],by rw[hE,←YV];rfl,YG (f:=C0) (ah.mem hw:Mem w [fz C0,own ay 19 kh (cH f.table.xs ls)] _)⟩
    ·
     replace h3:=bz h3
     have z9:eu (dZ (bE f)) (dy (bE f) ls)=pK.xs.map bo:=by rw[←vl,←pv,←Na];rfl
     have YW: ¬eu (dZ (bE f)) (dy (bE f) ls)=[]:=by rw[z9];intro h;have:=congrArg List.length h;rw[List.length_map,List.length_nil]at this;omega
     have YX:pK.xs.length≤1000000:=by have:=congrArg List.length z9;have hq:=Ce (dZ (bE f)) (dy (bE f) ls) (max (dZ (bE f)).length (dy (bE f) ls).length);rw[List.length_map]at this;have h7:=CQ.1;rw[eu]at this;omega
     have sH:=Cq h0 h1 h2 YW
     rw[z9]at sH
     refine Gc ?_
     refine Gs ?_
     refine ag (iA rfl) ?_
     refine Gs ?_
     refine bq rfl ⟨kG,iK,YX⟩ fun eI GA=> ?_
     refine Gs ?_
     refine ag (aV (v:= .agg (bF (⟨eI.1,eI.2.1,eI.2.2.1,eI.2.2.2⟩:bM))) rfl rfl) ?_
     refine ag (aV (v:= .int .i64 ((fo (vv f.an) (pK.xs.map bo)).2)) rfl rfl) ?_
     refine bK fun tM=> ?_
     iterate 2 refine Gs ?_
     refine Gc ?_
     iterate 2 refine Gs ?_
     refine Gc ?_
     refine au rfl (fun h4=> ?_) (fun h4=> ?_)
     ·
      replace h4:=bz h4
      have hE:(cY (bE f) ls)=(⟨(fo (vv f.an) (pK.xs.map bo)).1,f.table.xs⟩,(fo (vv f.an) (pK.xs.map bo)).2):=sH.trans (congrArg (fun z=>((⟨(fo (vv f.an) (pK.xs.map bo)).1,z⟩:FV),(fo (vv f.an) (pK.xs.map bo)).2)) (if_pos h4))
      refine Gi ?_
      iterate 2 refine Gs ?_
      refine bq rfl nQ fun xL aiW=> ?_
      refine Gs ?_
      refine Gc ?_
      iterate 2 refine Gs ?_
      refine ag (cR (v:= .agg (bO (⟨(⟨eI.1,eI.2.1,eI.2.2.1,eI.2.2.2⟩:bM),⟨xL,f.table.xs⟩⟩:cm))) rfl (G5 (⟨eI.1,eI.2.1,eI.2.2.1,eI.2.2.2⟩:bM) ⟨xL,f.table.xs⟩)) ?_
      iterate 3 refine Gs ?_
      refine Gc ?_
      refine aq (.inl rfl) (bm rfl (cc rfl) (ak rfl)) (fun w1 hw=> ?_)
      exact⟨(⟨(⟨eI.1,eI.2.1,eI.2.2.1,eI.2.2.2⟩:bM),⟨xL,f.table.xs⟩⟩:cm),by rw[hE],by rw[hE];simp only[bE,vv,GA],Cm (f:=(⟨(⟨eI.1,eI.2.1,eI.2.2.1,eI.2.2.2⟩:bM),⟨xL,f.table.xs⟩⟩:cm)) (ah.mem (vd (a:=(⟨xL,f.table.xs⟩:Sl Rt)) (ah.mem hw:Mem w [own ay 19 xL f.table.xs,fz eI.1,fz eI.2.1] _)))⟩
     ·
      replace h4:=bz h4
      have hE:(cY (bE f) ls)=(⟨(fo (vv f.an) (pK.xs.map bo)).1,(cH f.table.xs ls)⟩,(fo (vv f.an) (pK.xs.map bo)).2):=sH.trans (congrArg (fun z=>((⟨(fo (vv f.an) (pK.xs.map bo)).1,z⟩:FV),(fo (vv f.an) (pK.xs.map bo)).2)) (if_neg (fun h=>h h4)))
      refine Gc ?_
      iterate 2 refine Gs ?_
      refine ag (cR (v:= .agg (bO (⟨(⟨eI.1,eI.2.1,eI.2.2.1,eI.2.2.2⟩:bM),⟨kh,(cH f.table.xs ls)⟩⟩:cm))) rfl (G5 (⟨eI.1,eI.2.1,eI.2.2.1,eI.2.2.2⟩:bM) ⟨kh,(cH f.table.xs ls)⟩)) ?_
      iterate 3 refine Gs ?_
      refine Gc ?_
      refine aq (.inl rfl) (bm rfl (cc rfl) (ak rfl)) (fun w1 hw=> ?_)
      exact⟨(⟨(⟨eI.1,eI.2.1,eI.2.2.1,eI.2.2.2⟩:bM),⟨kh,(cH f.table.xs ls)⟩⟩:cm),by rw[hE],by rw[hE];simp only[bE,vv,GA],Cm (f:=(⟨(⟨eI.1,eI.2.1,eI.2.2.1,eI.2.2.2⟩:bM),⟨kh,(cH f.table.xs ls)⟩⟩:cm)) (ah.mem (vd (a:=(⟨kh,(cH f.table.xs ls)⟩:Sl Rt)) (ah.mem hw:Mem w [own ay 19 kh (cH f.table.xs ls),fz eI.1,fz eI.2.1] _)))⟩
instance aiX{w0:World}{L:List ai}{f:cm}{l:Sv}{ls:List Ch}[hf:aU w0 L f][hl:c0 w0 L fO 20 l ls]:cl Tryz.prog 35 w0 L [.agg (bO f),l.val] (cm) (fun zz=> .tuple #[.agg (bO zz), .int .i64 ((cY (bE f) ls).2)]) (fun zz=>fz zz::L) (fun zz=>bE zz=(cY (bE f) ls).1) (dQ f.an.ae∧f.an.at_.xs.length≤1000000∧f.table.xs.length≤1000000):=⟨fun hp w hw=>(YP w f l ls (hf.h w hw) (hl.h w hw) hp).mono fun e w' ⟨x,h1,h2,h3⟩=>⟨x,h1,h2,hw.call h3⟩⟩
open Go.aC Go.Kb
open Go.RowKit
open Go.aC Go.Kb
open Go.RowKit
theorem aiY(w:World)(x:Sv)(xs:List Int)(n:Int)(hx:bQ bG 1 (hp w) x xs):Calls Tryz.prog 95 #[x.val, .int .i64 n] w fun e w'=>e= .returned (.bool (xs.contains n))∧Mem w [] w':=by
 have tK:Gv w x bG 1 xs:=⟨hx⟩
 have iJ:=hx.bd
 refine ba (args:=[_,_]) Tryz.func95 rfl Tryz.ntmps95 rfl ?_
 change Cw _ _ _ _ _ [(0,x.val),(1, .int .i64 n)] []
 refine Gc ?_
 refine Gs ?_
 refine Gc ?_
 refine Gs ?_
 refine Gc ?_
 refine ca (X:=Nat) (fun zz=>[(5, .int .i64 (zz:Nat)),(0,x.val),(1, .int .i64 n)]) (fun zz=>[]) (fun zz=>zz≤xs.length∧ ∀j y,j<zz→xs[j]? =Option.some y→y≠n) (fun zz=>xs.length -zz) 0 ⟨Nat.zero_le _,fun j y hj=>by first|omega|(simp only[];omega)⟩ (Sub.cons rfl (Sub.cons rfl (Sub.cons rfl (Sub.nil _)))) (fun w hw=>ah.mem hw) ?_
 rintro i ⟨bh,aF⟩
 refine Gc ?_
 iterate 4 refine Gs ?_
 refine Gc ?_
 refine au rfl (fun h0=> ?_) (fun h0=> ?_)
 ·
  replace h0:=bz h0
  refine Gc ?_
  iterate 2 refine Gs ?_
  obtain⟨y,hy⟩:=get_some (xs:=xs) (i:=i) (by omega)
  refine ag (bg rfl rfl i rfl (by omega)) ?_
  refine ag (bL (j:=0) rfl i hy rfl (by decide)) ?_
  iterate 2 refine Gs ?_
  refine Gc ?_
  refine au rfl (fun h1=> ?_) (fun h1=> ?_)
  ·
   replace h1:=bz h1
   have hz:xs.contains n=true:=by rw[List.contains_eq_mem,decide_eq_true_eq,←h1];exact List.mem_of_getElem? hy
   refine Gc ?_
   refine Gs ?_
   refine Gc ?_
   refine aq (.inl rfl) (aI rfl (ak rfl)) (fun w1 hw=> ?_)
   exact⟨congrArg (fun b=>Ending.returned (Value.bool b)) (hz.symm),ah.mem hw⟩
  ·
   replace h1:=bz h1
   refine Gc ?_
   iterate 3 refine Gs ?_
   refine Gi ?_
   exact bx (x:=(i)) (i+1) ⟨by first|omega|(simp only[];omega),fun j z hj hz=>if e:j=i then(by subst e;rw[hy]at hz;cases hz;exact h1)else aF j z (by first|omega|(simp only[];omega)) hz⟩ (by first|omega|(simp only[];omega)) (Sub.cons rfl (Sub.cons rfl (Sub.cons rfl (Sub.nil _)))) (fun w hw=>ah.mem hw)
 ·
  replace h0:=bz h0
  obtain rfl:i=xs.length:=by omega
  have hz:xs.contains n=false:=by
   rw[List.contains_eq_mem,decide_eq_false_iff_not]
   intro hm
   obtain⟨j,hj⟩:=List.getElem?_of_mem hm
   exact aF j n (List.getElem?_eq_some_iff.1 hj).1 hj rfl
  refine Gc ?_
  refine Gs ?_
  refine Gc ?_
  refine aq (.inl rfl) (aI rfl (ak rfl)) (fun w1 hw=> ?_)
  exact⟨congrArg (fun b=>Ending.returned (Value.bool b)) (hz.symm),ah.mem hw⟩
theorem YY(w:World)(x:Sv)(xs:List Int)(y:Sv)(ys:List Int)(hx:bQ bG 1 (hp w) x xs)(hy:bQ bG 1 (hp w) y ys):Calls Tryz.prog 48 #[x.val,y.val] w fun e w'=>e= .returned (.bool (decide (xs=ys)))∧Mem w [] w':=by
 have tK:Gv w x bG 1 xs:=⟨hx⟩
 have Gk:Gv w y bG 1 ys:=⟨hy⟩
 have Mj:=hx.bd
 refine ba (args:=[_,_]) Tryz.func48 rfl Tryz.ntmps48 rfl ?_
 change Cw _ _ _ _ _ [(0,x.val),(1,y.val)] []
 refine Gc ?_
 refine Gs ?_
 refine Gc ?_
 iterate 5 refine Gs ?_
 refine Gc ?_
 refine au rfl (fun h0=> ?_) (fun h0=> ?_)
 ·
  replace h0:=bz h0
  have hz:decide (xs=ys)=false:=decide_eq_false fun e=>h0 (by rw[e])
  refine Gc ?_
  refine Gs ?_
  refine Gc ?_
  refine aq (.inl rfl) (aI rfl (ak rfl)) (fun w1 hw=> ?_)
  exact⟨congrArg (fun b=>Ending.returned (Value.bool b)) (hz.symm),ah.mem hw⟩
 ·
  replace h0:=bz h0
  have lQ:xs.length=ys.length:=by omega
  refine Gc ?_
  refine Gs ?_
  refine Gc ?_
  refine ca (X:=Nat) (fun zz=>[(5, .int .i64 (zz:Nat)),(0,x.val),(1,y.val)]) (fun zz=>[]) (fun zz=>zz≤xs.length∧ ∀j,j<zz→xs[j]? =ys[j]?) (fun zz=>xs.length -zz) 0 ⟨Nat.zero_le _,fun j hj=>by first|omega|(simp only[];omega)⟩ (Sub.cons rfl (Sub.cons rfl (Sub.cons rfl (Sub.nil _)))) (fun w hw=>ah.mem hw) ?_
  rintro i ⟨bh,aF⟩
  refine Gc ?_
  iterate 4 refine Gs ?_
  refine Gc ?_
  refine au rfl (fun h1=> ?_) (fun h1=> ?_)
  ·
   replace h1:=bz h1
   obtain⟨p,iB⟩:=get_some (xs:=xs) (i:=i) (by omega)
   obtain⟨q,nU⟩:=get_some (xs:=ys) (i:=i) (by omega)
   refine Gc ?_
   refine gO (by kernel_rfl) (by kernel_rfl) ?_
   iterate 2 refine Gq ?_
   refine bc (bg rfl rfl i rfl (by omega)) ?_
   refine bc (bL (j:=0) rfl i iB rfl (by decide)) ?_
   iterate 2 refine Gq ?_
   refine bc (bg rfl rfl i rfl (by omega)) ?_
   refine bc (bL (j:=0) rfl i nU rfl (by decide)) ?_
   refine Gq ?_
   refine Gc ?_
   refine au rfl (fun h2=> ?_) (fun h2=> ?_)
   ·
    replace h2:=bz h2
    have hz:decide (xs=ys)=false:=decide_eq_false fun e=>h2 (by rw[e]at iB;rw[iB]at nU;cases nU;rfl)
    refine Gc ?_
    refine Gs ?_
    refine Gc ?_
    refine aq (.inl rfl) (aI rfl (ak rfl)) (fun w1 hw=> ?_)
    exact⟨congrArg (fun b=>Ending.returned (Value.bool b)) (hz.symm),ah.mem hw⟩
   ·
    replace h2:=bz h2
    refine Gc ?_
    iterate 3 refine Gs ?_
    refine Gi ?_
    exact bx (x:=(i)) (i+1) ⟨by first|omega|(simp only[];omega),fun j hj=>if e:j=i then(by subst e;rw[iB,nU,h2])else aF j (by first|omega|(simp only[];omega))⟩ (by first|omega|(simp only[];omega)) (Sub.cons rfl (Sub.cons rfl (Sub.cons rfl (Sub.nil _)))) (fun w hw=>ah.mem hw)
  ·
   replace h1:=bz h1
   obtain rfl:i=xs.length:=by omega
   have hz:decide (xs=ys)=true:=decide_eq_true (B9 lQ aF)
   refine Gc ?_
   refine Gs ?_
   refine Gc ?_
   refine aq (.inl rfl) (aI rfl (ak rfl)) (fun w1 hw=> ?_)
   exact⟨congrArg (fun b=>Ending.returned (Value.bool b)) (hz.symm),ah.mem hw⟩
instance aiZ{w0:World}{L:List ai}{x:Sv}{xs:List Int}{y:Sv}{ys:List Int}[hx:c0 w0 L bG 1 x xs][hy:c0 w0 L bG 1 y ys]:cB Tryz.prog 48 w0 L [x.val,y.val] (.bool (decide (xs=ys))) (True):=⟨fun hp w hw=>YY w x xs y ys (hx.h w hw) (hy.h w hw)⟩
open Go.aC Go.Kb
open Go.RowKit
theorem ai0(w:World)(c:Cp)(hc:Deep.aY (hp w) c):Calls Tryz.prog 93 #[.agg (aB c)] w fun e w'=>e= .returned (.bool (aT (cv c)))∧Mem w [] w':=by
 have jR:cg w c:=⟨hc⟩
 have dt:=fu c.blocks.xs
 have bP:aT (cv c)=true↔pf c.blocks.xs.length c.pages c.size=true∧0≤c.ops∧c.ops≤cI∧c.aR.xs.length≤64∧ ∀b∈gu c.blocks.xs,mo c.pages c.size b=true:=by rw[eU];simp only[cv,dt]
 have oE:cI=1099511627776:=rfl
 refine ba (args:=[_]) Tryz.func93 rfl Tryz.ntmps93 rfl ?_
 change Cw _ _ _ _ _ [(0, .agg (aB c))] []
 refine Gc ?_
 refine bX rfl fun b1=> ?_
 refine Gs ?_
 refine Gc ?_
 iterate 4 refine Gs ?_
 iterate 3 refine Gg ?_
 iterate 2 refine Gs ?_
 iterate 3 refine Gg ?_
 iterate 2 refine Gs ?_
 iterate 3 refine Gg ?_
 iterate 2 refine Gs ?_
 iterate 4 refine Gg ?_
 iterate 2 refine Gs ?_
 iterate 4 refine Gg ?_
 iterate 2 refine Gs ?_
 iterate 3 refine Gg ?_
 iterate 2 refine Gs ?_
 iterate 3 refine Gg ?_
 iterate 2 refine Gs ?_
 iterate 4 refine Gg ?_
 refine Gs ?_
 refine Gc ?_
 refine au rfl (fun h0=> ?_) (fun h0=> ?_)
 ·
  replace h0:=bz h0
  have hz:aT (cv c)=false:=by
   cases hk:aT (cv c)with
   |false=>rfl
   |true=>
    have g:=bP.1 hk
    have g2:=jI.1 g.1
    omega
  refine Gc ?_
  refine Gs ?_
  refine Gc ?_
  refine aq (.inl rfl) (aI rfl (ak rfl)) (fun w1 hw=> ?_)
  exact⟨congrArg (fun b=>Ending.returned (Value.bool b)) (hz.symm),ah.mem hw⟩
 ·
  replace h0:=bz h0
  have g0:pf c.blocks.xs.length c.pages c.size=true∧0≤c.ops∧c.ops≤cI∧c.aR.xs.length≤64:=⟨jI.2 ⟨by omega,by omega,by omega,by omega,by omega,by omega⟩,by omega,by omega,by omega⟩
  have gs:=jI.1 g0.1
  refine Gc ?_
  refine Gs ?_
  refine Gc ?_
  refine ca (X:=Nat) (fun zz=>[(3, .int .i64 (zz:Nat)),(1, .pointer (some ⟨b1,0,none⟩))]) (fun zz=>[ar b1 (aB c) 25]) (fun zz=>zz≤c.blocks.xs.length∧ ∀j b,j<zz→(gu c.blocks.xs)[j]? =Option.some b→mo c.pages c.size b=true) (fun zz=>c.blocks.xs.length -zz) 0 ⟨Nat.zero_le _,fun j b hj=>by first|omega|(simp only[];omega)⟩ (Sub.cons rfl (Sub.cons rfl (Sub.nil _))) (fun w hw=>ah.mem hw) ?_
  rintro i ⟨bh,aF⟩
  refine Gc ?_
  iterate 5 refine Gs ?_
  refine Gc ?_
  refine au rfl (fun h1=> ?_) (fun h1=> ?_)
  ·
   replace h1:=bz h1
   obtain⟨x,hx⟩:=get_some (xs:=c.blocks.xs) (i:=i) (by omega)
   have zy:Mb x c.blocks:=⟨List.mem_of_getElem? hx⟩
   refine Gc ?_
   iterate 3 refine Gs ?_
   refine ag (bg rfl rfl i rfl (by omega)) ?_
   refine ag (gG rfl i hx rfl) ?_
   have ai1:Mb x c.blocks:=⟨List.mem_of_getElem? hx⟩
   refine bK fun b4=> ?_
   refine Gs ?_
   refine Gc ?_
   iterate 7 refine Gs ?_
   iterate 3 refine Gg ?_
   iterate 2 refine Gs ?_
   iterate 5 refine Gg ?_
   iterate 2 refine Gs ?_
   iterate 3 refine Gg ?_
   iterate 2 refine Gs ?_
   iterate 3 refine Gg ?_
   refine Gs ?_
   refine Gc ?_
   refine au rfl (fun h2=> ?_) (fun h2=> ?_)
   ·
    replace h2:=bz h2
    have hz:aT (cv c)=false:=by
     cases hk:aT (cv c)with
     |false=>rfl
     |true=>
      have g:=dX.1 ((bP.1 hk).2.2.2.2 (bv x) (List.mem_of_getElem? (iV hx)))
      simp only[bv,jo]at g
      omega
    refine Gc ?_
    refine Gs ?_
    refine Gc ?_
    refine aq (.inl rfl) (aI rfl (ak rfl)) (fun w1 hw=> ?_)
    exact⟨congrArg (fun b=>Ending.returned (Value.bool b)) (hz.symm),ah.mem hw⟩
   ·
    replace h2:=bz h2
    refine Gc ?_
    refine Gs ?_
    refine Gc ?_
    refine ca (X:=Nat) (fun zz=>[(5, .int .i64 (zz:Nat)),(1, .pointer (some ⟨b1,0,none⟩)),(3, .int .i64 (i:Nat)),(4, .pointer (some ⟨b4,0,none⟩))]) (fun zz=>[ar b4 (bI x) 48,ar b1 (aB c) 25]) (fun zz=>zz≤x.pages.xs.length∧ ∀k y,k<zz→(bv x).pages[k]? =Option.some y→(y.length:Int)=c.size) (fun zz=>x.pages.xs.length -zz) 0 ⟨Nat.zero_le _,fun k y hk=>by first|omega|(simp only[];omega)⟩ (Sub.cons rfl (Sub.cons rfl (Sub.cons rfl (Sub.cons rfl (Sub.nil _))))) (fun w hw=>ah.mem hw) ?_
    rintro j ⟨ic,dz⟩
    refine Gc ?_
    iterate 5 refine Gs ?_
    refine Gc ?_
    refine au rfl (fun h3=> ?_) (fun h3=> ?_)
    ·
     replace h3:=bz h3
     obtain⟨y,hy⟩:=get_some (xs:=x.pages.xs) (i:=j) (by omega)
     have vj:Mb y x.pages:=⟨List.mem_of_getElem? hy⟩
     refine Gc ?_
     refine gO (by kernel_rfl) (by kernel_rfl) ?_
     iterate 3 refine Gq ?_
     refine bc (bg rfl rfl j rfl (by omega)) ?_
     refine bc (bL (j:=0) rfl j hy rfl (by decide)) ?_
     have ai2:Mb y _:=⟨List.mem_of_getElem? hy⟩
     iterate 4 refine Gq ?_
     refine Gc ?_
     refine au rfl (fun h4=> ?_) (fun h4=> ?_)
     ·
      replace h4:=bz h4
      have hz:aT (cv c)=false:=by
       cases hk:aT (cv c)with
       |false=>rfl
       |true=>
        have g:=(dX.1 ((bP.1 hk).2.2.2.2 (bv x) (List.mem_of_getElem? (iV hx)))).2.2.2.2.2 y.xs (List.mem_of_getElem? (kS hy))
        omega
      refine Gc ?_
      refine Gs ?_
      refine Gc ?_
      refine aq (.inl rfl) (aI rfl (ak rfl)) (fun w1 hw=> ?_)
      exact⟨congrArg (fun b=>Ending.returned (Value.bool b)) (hz.symm),ah.mem hw⟩
     ·
      replace h4:=bz h4
      refine Gc ?_
      iterate 3 refine Gs ?_
      refine Gi ?_
      exact bx (x:=(j)) (j+1) ⟨by first|omega|(simp only[];omega),fun k z hk hz=>if e:k=j then(by subst e;rw[show(bv x).pages=aJ x.pages.xs from rfl,kS hy]at hz;cases hz;omega)else dz k z (by first|omega|(simp only[];omega)) hz⟩ (by first|omega|(simp only[];omega)) (Sub.cons rfl (Sub.cons rfl (Sub.cons rfl (Sub.cons rfl (Sub.nil _))))) (fun w hw=>ah.mem hw)
    ·
     replace h3:=bz h3
     have rl:mo c.pages c.size (bv x)=true:=dX.2 ⟨by simp only[bv,jo];omega,by simp only[bv];omega,by simp only[bv];omega,by simp only[bv];omega,by simp only[bv];omega,fun y hy=>by
      obtain⟨k,hk⟩:=List.getElem?_of_mem hy
      exact dz k y (by have h:=(List.getElem?_eq_some_iff.1 hk).1;simp only[bv,jo]at h;omega) hk⟩
     refine Gc ?_
     iterate 3 refine Gs ?_
     refine Gi ?_
     exact bx (x:=(i)) (i+1) ⟨by first|omega|(simp only[];omega),fun j b hj hb=>if e:j=i then(by subst e;rw[iV hx]at hb;cases hb;exact rl)else aF j b (by first|omega|(simp only[];omega)) hb⟩ (by first|omega|(simp only[];omega)) (Sub.cons rfl (Sub.cons rfl (Sub.nil _))) (fun w hw=>ah.mem hw)
  ·
   replace h1:=bz h1
   obtain rfl:i=c.blocks.xs.length:=by omega
   have hz:aT (cv c)=true:=bP.2 ⟨g0.1,g0.2.1,g0.2.2.1,g0.2.2.2,fun b hb=>by
    obtain⟨j,hj⟩:=List.getElem?_of_mem hb
    exact aF j b (by have:=(List.getElem?_eq_some_iff.1 hj).1;omega) hj⟩
   refine Gc ?_
   refine Gs ?_
   refine Gc ?_
   refine aq (.inl rfl) (aI rfl (ak rfl)) (fun w1 hw=> ?_)
   exact⟨congrArg (fun b=>Ending.returned (Value.bool b)) (hz.symm),ah.mem hw⟩
theorem YZ(w:World)(a:Bk)(d:Bk)(ha:Deep.aY (hp w) a)(hd:Deep.aY (hp w) d):Calls Tryz.prog 38 #[.agg (bI a), .agg (bI d)] w fun e w'=>e= .returned (.bool (decide (bv a=bv d)))∧Mem w [] w':=by
 have xh:cg w a:=⟨ha⟩
 have F9:cg w d:=⟨hd⟩
 have iJ:=ha.1.bd
 have Y0:=jo a.pages.xs
 have wB:=jo d.pages.xs
 refine ba (args:=[_,_]) Tryz.func38 rfl Tryz.ntmps38 rfl ?_
 change Cw _ _ _ _ _ [(0, .agg (bI a)),(1, .agg (bI d))] []
 refine Gc ?_
 refine bX rfl fun b2=> ?_
 refine bX rfl fun b3=> ?_
 refine Gs ?_
 refine Gc ?_
 iterate 6 refine Gs ?_
 iterate 5 refine Gg ?_
 iterate 2 refine Gs ?_
 iterate 4 refine Gg ?_
 refine bZ rfl rfl rfl (fun hg=>(Ry.yl (Io (aG hg rfl) (aG hg rfl) Tryz.underlying4))) ?_
 iterate 2 refine Gs ?_
 iterate 7 refine Gg ?_
 refine Gs ?_
 refine Gc ?_
 refine au rfl (fun h0=> ?_) (fun h0=> ?_)
 ·
  replace h0:=bz h0
  have hz:decide (bv a=bv d)=false:=decide_eq_false fun e=>by
   obtain⟨g1,g2,g3,g4⟩:=FA.1 e
   have g5:=congrArg List.length g4
   simp only[bv,jo]at g1 g2 g3 g5
   rcases h0 with((h|h)|h)|h
   ·
    exact h g1
   ·
    exact h g2
   ·
    rw[g3]at h;simp at h
   ·
    omega
  refine Gc ?_
  refine Gs ?_
  refine Gc ?_
  refine aq (.inl rfl) (aI rfl (ak rfl)) (fun w1 hw=> ?_)
  exact⟨congrArg (fun b=>Ending.returned (Value.bool b)) (hz.symm),ah.mem hw⟩
 ·
  replace h0:=bz h0
  have hc:a.used=d.used∧a.aS=d.aS∧a.bad=d.bad∧a.pages.xs.length=d.pages.xs.length:=⟨h0.1.1.1,h0.1.1.2,by simpa using h0.1.2,by omega⟩
  refine Gc ?_
  refine Gs ?_
  refine Gc ?_
  refine ca (X:=Nat) (fun zz=>[(5, .int .i64 (zz:Nat)),(2, .pointer (some ⟨b2,0,none⟩)),(3, .pointer (some ⟨b3,0,none⟩))]) (fun zz=>[ar b3 (bI d) 48,ar b2 (bI a) 48]) (fun zz=>zz≤a.pages.xs.length∧ ∀j,j<zz→(bv a).pages[j]? =(bv d).pages[j]?) (fun zz=>a.pages.xs.length -zz) 0 ⟨Nat.zero_le _,fun j hj=>by first|omega|(simp only[];omega)⟩ (Sub.cons rfl (Sub.cons rfl (Sub.cons rfl (Sub.nil _)))) (fun w hw=>ah.mem hw) ?_
  rintro i ⟨bh,aF⟩
  refine Gc ?_
  iterate 5 refine Gs ?_
  refine Gc ?_
  refine au rfl (fun h1=> ?_) (fun h1=> ?_)
  ·
   replace h1:=bz h1
   obtain⟨x,hx⟩:=get_some (xs:=a.pages.xs) (i:=i) (by omega)
   obtain⟨y,hy⟩:=get_some (xs:=d.pages.xs) (i:=i) (by omega)
   have zy:Mb x a.pages:=⟨List.mem_of_getElem? hx⟩
   have vj:Mb y d.pages:=⟨List.mem_of_getElem? hy⟩
   refine Gc ?_
   refine gO (by kernel_rfl) (by kernel_rfl) ?_
   iterate 3 refine Gq ?_
   refine bc (bg rfl rfl i rfl (by omega)) ?_
   refine bc (bL (j:=0) rfl i hx rfl (by decide)) ?_
   have Yc:Mb x _:=⟨List.mem_of_getElem? hx⟩
   refine bc (AZ Tryz.underlying38 Tryz.underlying5 Tryz.underlying9 rfl) ?_
   iterate 3 refine Gq ?_
   refine bc (bg rfl rfl i rfl (by omega)) ?_
   refine bc (bL (j:=0) rfl i hy rfl (by decide)) ?_
   have ai3:Mb y _:=⟨List.mem_of_getElem? hy⟩
   refine bc (AZ Tryz.underlying38 Tryz.underlying5 Tryz.underlying9 rfl) ?_
   refine bc (Qn rfl rfl) ?_
   refine Gc ?_
   refine au rfl (fun h2=> ?_) (fun h2=> ?_)
   ·
    replace h2:=bz h2
    have hz:decide (bv a=bv d)=false:=decide_eq_false fun e=>h2 (by
     have g:=congrArg (fun l:List (List UInt8)=>l[i]?) (FA.1 e).2.2.2
     simp only[bv,kS hx,kS hy]at g
     exact Option.some.inj g)
    refine Gc ?_
    refine Gs ?_
    refine Gc ?_
    refine aq (.inl rfl) (aI rfl (ak rfl)) (fun w1 hw=> ?_)
    exact⟨congrArg (fun b=>Ending.returned (Value.bool b)) (hz.symm),ah.mem hw⟩
   ·
    replace h2:=bz h2
    refine Gc ?_
    iterate 3 refine Gs ?_
    refine Gi ?_
    exact bx (x:=(i)) (i+1) ⟨by first|omega|(simp only[];omega),fun j hj=>if e:j=i then(by subst e;rw[show(bv a).pages=aJ a.pages.xs from rfl,show(bv d).pages=aJ d.pages.xs from rfl,kS hx,kS hy,h2])else aF j (by first|omega|(simp only[];omega))⟩ (by first|omega|(simp only[];omega)) (Sub.cons rfl (Sub.cons rfl (Sub.cons rfl (Sub.nil _)))) (fun w hw=>ah.mem hw)
  ·
   replace h1:=bz h1
   obtain rfl:i=a.pages.xs.length:=by omega
   have hz:decide (bv a=bv d)=true:=decide_eq_true (FA.2 ⟨hc.1,hc.2.1,hc.2.2.1,B9 (by simp only[bv,jo];exact hc.2.2.2) fun j hj=>aF j (by simpa only[bv,jo]using hj)⟩)
   refine Gc ?_
   refine Gs ?_
   refine Gc ?_
   refine aq (.inl rfl) (aI rfl (ak rfl)) (fun w1 hw=> ?_)
   exact⟨congrArg (fun b=>Ending.returned (Value.bool b)) (hz.symm),ah.mem hw⟩
instance ai4{w0:World}{L:List ai}{a:Bk}{d:Bk}[ha:aU w0 L a][hd:aU w0 L d]:cB Tryz.prog 38 w0 L [.agg (bI a), .agg (bI d)] (.bool (decide (bv a=bv d))) (True):=⟨fun hp w hw=>YZ w a d (ha.h w hw) (hd.h w hw)⟩
theorem Nb(d:Nat):pA Tryz.prog (d+1) 4 false [1]:=⟨⟨_,Tryz.underlying4,rfl⟩,by kernel_rfl,fun _=>rfl,TO Tryz.underlying4⟩
theorem Y1:Tryz.prog.stoodInHeld 94=false:=by kernel_rfl
theorem Y2(d:Nat):pA Tryz.prog (d+1+1+1+1+1) 94 true ([0]++([1]++([1]++([0]++[])))):=⟨⟨_,Tryz.underlying94,rfl⟩,by kernel_rfl,(fun h=>by cases h),
 FP Tryz.underlying94 Y1 ⟨by decide,rfl,_,_,_,rfl,FQ _,by decide,rfl,_,_,_,rfl,Nb _,by decide,rfl,_,_,_,rfl,Nb _,by decide,rfl,_,_,_,rfl,LF _,rfl⟩⟩
theorem Y3:Tryz.prog.eqGuardType Tryz.prog.depth 94=false:=by kernel_rfl
theorem Y4{a b:Ft}:di a=di b↔a=b:=by
 constructor
 ·
  intro h
  obtain⟨a1,a2,a3,a4⟩:=a
  obtain⟨b1,b2,b3,b4⟩:=b
  simp only[di,Array.mk.injEq,List.cons.injEq,Value.int.injEq,Value.bool.injEq,true_and,and_true]at h
  obtain⟨h1,h2,h3,h4⟩:=h
  have rn:a4=b4:=UInt8.toNat_inj.1 (by omega)
  subst h1 h2 h3 rn;rfl
 ·
  rintro rfl;rfl
instance (a b:Ft):uo Tryz.prog 94 (.agg (di a)) (.agg (di b)) (decide (a=b)):=
 (Y2 9995).eq.val rfl Y3 rfl rfl (fun i k hk=>by
  have hi:i<4:=(List.getElem?_eq_some_iff.1 hk).1
  match i,hi with
  |0,_=>obtain rfl:0=k:=Option.some.inj hk;exact⟨_,_,rfl,rfl,rfl⟩
  |1,_=>obtain rfl:1=k:=Option.some.inj hk;exact⟨_,_,rfl,rfl,trivial⟩
  |2,_=>obtain rfl:1=k:=Option.some.inj hk;exact⟨_,_,rfl,rfl,trivial⟩
  |3,_=>obtain rfl:0=k:=Option.some.inj hk;exact⟨_,_,rfl,rfl,rfl⟩) (by rw[decide_eq_true_iff];exact Y4)
theorem Y5(w:World)(a:Cp)(d:Cp)(ha:Deep.aY (hp w) a)(hd:Deep.aY (hp w) d):Calls Tryz.prog 47 #[.agg (aB a), .agg (aB d)] w fun e w'=>e= .returned (.bool (decide (cv a=cv d)))∧Mem w [] w':=by
 have xh:cg w a:=⟨ha⟩
 have F9:cg w d:=⟨hd⟩
 have iJ:=ha.1.1.bd
 have Y6:=ha.2.1.bd
 have Y0:=fu a.blocks.xs
 have wB:=fu d.blocks.xs
 refine ba (args:=[_,_]) Tryz.func47 rfl Tryz.ntmps47 rfl ?_
 change Cw _ _ _ _ _ [(0, .agg (aB a)),(1, .agg (aB d))] []
 refine Gc ?_
 refine bX rfl fun b2=> ?_
 refine bX rfl fun b3=> ?_
 refine Gs ?_
 refine Gc ?_
 iterate 6 refine Gs ?_
 iterate 5 refine Gg ?_
 iterate 2 refine Gs ?_
 iterate 5 refine Gg ?_
 iterate 2 refine Gs ?_
 iterate 4 refine Gg ?_
 refine bZ rfl rfl rfl (fun hg=>(Ry.yl (Io (aG hg rfl) (aG hg rfl) Tryz.underlying4))) ?_
 iterate 2 refine Gs ?_
 iterate 7 refine Gg ?_
 iterate 2 refine Gs ?_
 iterate 7 refine Gg ?_
 refine Gs ?_
 refine Gc ?_
 refine au rfl (fun h0=> ?_) (fun h0=> ?_)
 ·
  replace h0:=bz h0
  have hz:decide (cv a=cv d)=false:=decide_eq_false fun e=>by
   obtain⟨g1,g2,g3,g4,g5,g6⟩:=B8.1 e
   have g7:=congrArg List.length g5
   have g8:=congrArg List.length g6
   simp only[cv,fu]at g1 g2 g3 g4 g7 g8
   rcases h0 with((((h|h)|h)|h)|h)|h
   ·
    exact h g1
   ·
    exact h g2
   ·
    exact h g3
   ·
    rw[g4]at h;simp at h
   ·
    omega
   ·
    omega
  refine Gc ?_
  refine Gs ?_
  refine Gc ?_
  refine aq (.inl rfl) (aI rfl (ak rfl)) (fun w1 hw=> ?_)
  exact⟨congrArg (fun b=>Ending.returned (Value.bool b)) (hz.symm),ah.mem hw⟩
 ·
  replace h0:=bz h0
  have hc:a.pages=d.pages∧a.size=d.size∧a.ops=d.ops∧a.off=d.off∧a.blocks.xs.length=d.blocks.xs.length∧a.aR.xs.length=d.aR.xs.length:=⟨h0.1.1.1.1.1,h0.1.1.1.1.2,h0.1.1.1.2,by simpa using h0.1.1.2,by omega,by omega⟩
  refine Gc ?_
  refine Gs ?_
  refine Gc ?_
  refine ca (X:=Nat) (fun zz=>[(5, .int .i64 (zz:Nat)),(2, .pointer (some ⟨b2,0,none⟩)),(3, .pointer (some ⟨b3,0,none⟩))]) (fun zz=>[ar b3 (aB d) 25,ar b2 (aB a) 25]) (fun zz=>zz≤a.aR.xs.length∧ ∀j,j<zz→a.aR.xs[j]? =d.aR.xs[j]?) (fun zz=>a.aR.xs.length -zz) 0 ⟨Nat.zero_le _,fun j hj=>by first|omega|(simp only[];omega)⟩ (Sub.cons rfl (Sub.cons rfl (Sub.cons rfl (Sub.nil _)))) (fun w hw=>ah.mem hw) ?_
  rintro i ⟨bh,aF⟩
  refine Gc ?_
  iterate 5 refine Gs ?_
  refine Gc ?_
  refine au rfl (fun h1=> ?_) (fun h1=> ?_)
  ·
   replace h1:=bz h1
   obtain⟨x,hx⟩:=get_some (xs:=a.aR.xs) (i:=i) (by omega)
   obtain⟨y,hy⟩:=get_some (xs:=d.aR.xs) (i:=i) (by omega)
   refine Gc ?_
   refine gO (by kernel_rfl) (by kernel_rfl) ?_
   iterate 3 refine Gq ?_
   refine bc (bg rfl rfl i rfl (by omega)) ?_
   refine bc (gG rfl i hx rfl) ?_
   iterate 3 refine Gq ?_
   refine bc (bg rfl rfl i rfl (by omega)) ?_
   refine bc (gG rfl i hy rfl) ?_
   refine bc (DL rfl rfl) ?_
   refine Gc ?_
   refine au rfl (fun h2=> ?_) (fun h2=> ?_)
   ·
    replace h2:=bz h2
    have hz:decide (cv a=cv d)=false:=decide_eq_false fun e=>h2 (by
     have g:=congrArg (fun l:List Ft=>l[i]?) (B8.1 e).2.2.2.2.2
     simp only[cv,hx,hy]at g
     exact Option.some.inj g)
    refine Gc ?_
    refine Gs ?_
    refine Gc ?_
    refine aq (.inl rfl) (aI rfl (ak rfl)) (fun w1 hw=> ?_)
    exact⟨congrArg (fun b=>Ending.returned (Value.bool b)) (hz.symm),ah.mem hw⟩
   ·
    replace h2:=bz h2
    refine Gc ?_
    iterate 3 refine Gs ?_
    refine Gi ?_
    exact bx (x:=(i)) (i+1) ⟨by first|omega|(simp only[];omega),fun j hj=>if e:j=i then(by subst e;rw[hx,hy,h2])else aF j (by first|omega|(simp only[];omega))⟩ (by first|omega|(simp only[];omega)) (Sub.cons rfl (Sub.cons rfl (Sub.cons rfl (Sub.nil _)))) (fun w hw=>ah.mem hw)
  ·
   replace h1:=bz h1
   obtain rfl:i=a.aR.xs.length:=by omega
   have Y7:a.aR.xs=d.aR.xs:=B9 hc.2.2.2.2.2 aF
   refine Gc ?_
   refine Gs ?_
   refine Gc ?_
   refine ca (X:=Nat) (fun zz=>[(6, .int .i64 (zz:Nat)),(2, .pointer (some ⟨b2,0,none⟩)),(3, .pointer (some ⟨b3,0,none⟩))]) (fun zz=>[ar b3 (aB d) 25,ar b2 (aB a) 25]) (fun zz=>zz≤a.blocks.xs.length∧ ∀k,k<zz→(gu a.blocks.xs)[k]? =(gu d.blocks.xs)[k]?) (fun zz=>a.blocks.xs.length -zz) 0 ⟨Nat.zero_le _,fun j hj=>by first|omega|(simp only[];omega)⟩ (Sub.cons rfl (Sub.cons rfl (Sub.cons rfl (Sub.nil _)))) (fun w hw=>ah.mem hw) ?_
   rintro j ⟨ic,dz⟩
   refine Gc ?_
   iterate 5 refine Gs ?_
   refine Gc ?_
   refine au rfl (fun h3=> ?_) (fun h3=> ?_)
   ·
    replace h3:=bz h3
    obtain⟨x,hx⟩:=get_some (xs:=a.blocks.xs) (i:=j) (by omega)
    obtain⟨y,hy⟩:=get_some (xs:=d.blocks.xs) (i:=j) (by omega)
    have zy:Mb x a.blocks:=⟨List.mem_of_getElem? hx⟩
    have vj:Mb y d.blocks:=⟨List.mem_of_getElem? hy⟩
    refine Gc ?_
    refine gO (by kernel_rfl) (by kernel_rfl) ?_
    iterate 3 refine Gq ?_
    refine bc (bg rfl rfl j rfl (by omega)) ?_
    refine bc (gG rfl j hx rfl) ?_
    have ai5:Mb x a.blocks:=⟨List.mem_of_getElem? hx⟩
    iterate 3 refine Gq ?_
    refine bc (bg rfl rfl j rfl (by omega)) ?_
    refine bc (gG rfl j hy rfl) ?_
    have Y8:Mb y d.blocks:=⟨List.mem_of_getElem? hy⟩
    refine sW (cC rfl trivial) ?_
    refine Gq ?_
    refine Gc ?_
    refine au rfl (fun h4=> ?_) (fun h4=> ?_)
    ·
     replace h4:=bz h4
     have hz:decide (cv a=cv d)=false:=decide_eq_false fun e=>absurd (show bv x=bv y by
      have g:=congrArg (fun l:List BV=>l[j]?) (B8.1 e).2.2.2.2.1
      simp only[cv,iV hx,iV hy]at g
      exact Option.some.inj g) h4
     refine Gc ?_
     refine Gs ?_
     refine Gc ?_
     refine aq (.inl rfl) (aI rfl (ak rfl)) (fun w1 hw=> ?_)
     exact⟨congrArg (fun b=>Ending.returned (Value.bool b)) (hz.symm),ah.mem hw⟩
    ·
     replace h4:=bz h4
     refine Gc ?_
     iterate 3 refine Gs ?_
     refine Gi ?_
     exact bx (x:=(j)) (j+1) ⟨by first|omega|(simp only[];omega),fun k hk=>if e:k=j then(by subst e;rw[iV hx,iV hy,h4])else dz k (by first|omega|(simp only[];omega))⟩ (by first|omega|(simp only[];omega)) (Sub.cons rfl (Sub.cons rfl (Sub.cons rfl (Sub.nil _)))) (fun w hw=>ah.mem hw)
   ·
    replace h3:=bz h3
    obtain rfl:j=a.blocks.xs.length:=by omega
    have hz:decide (cv a=cv d)=true:=decide_eq_true (B8.2 ⟨hc.1,hc.2.1,hc.2.2.1,hc.2.2.2.1,B9 (by simp only[cv,fu];exact hc.2.2.2.2.1) fun k hk=>dz k (by simpa only[cv,fu]using hk),Y7⟩)
    refine Gc ?_
    refine Gs ?_
    refine Gc ?_
    refine aq (.inl rfl) (aI rfl (ak rfl)) (fun w1 hw=> ?_)
    exact⟨congrArg (fun b=>Ending.returned (Value.bool b)) (hz.symm),ah.mem hw⟩
instance ai6{w0:World}{L:List ai}{a:Cp}{d:Cp}[ha:aU w0 L a][hd:aU w0 L d]:cB Tryz.prog 47 w0 L [.agg (aB a), .agg (aB d)] (.bool (decide (cv a=cv d))) (True):=⟨fun hp w hw=>Y5 w a d (ha.h w hw) (hd.h w hw)⟩
open Go.aC Go.Kb
open Go.RowKit
open Go.aC Go.Kb
open Go.RowKit
theorem Y9(w:World)(a:bM)(d:bM)(ha:Deep.aY (hp w) a)(hd:Deep.aY (hp w) d):Calls Tryz.prog 14 #[.agg (bF a), .agg (bF d)] w fun e w'=>e= .returned (.bool (decide (vv a=vv d)))∧Mem w [] w':=by
 have xh:cg w a:=⟨ha⟩
 have F9:cg w d:=⟨hd⟩
 refine ba (args:=[_,_]) Tryz.func14 rfl Tryz.ntmps14 rfl ?_
 change Cw _ _ _ _ _ [(0, .agg (bF a)),(1, .agg (bF d))] []
 refine Gc ?_
 refine bX rfl fun b2=> ?_
 refine bX rfl fun b3=> ?_
 refine Gs ?_
 refine Gc ?_
 refine Gs ?_
 refine ag (iA rfl) ?_
 refine Gs ?_
 refine ag (iA rfl) ?_
 iterate 2 refine Gs ?_
 iterate 4 refine Gg ?_
 refine gN rfl rfl rfl (fun hg=>cC (dA (aG hg rfl) (dA (aG hg rfl) gE)) trivial) ?_
 iterate 2 refine Gs ?_
 iterate 5 refine Gg ?_
 iterate 2 refine Gs ?_
 iterate 5 refine Gg ?_
 iterate 2 refine Gs ?_
 refine Gc ?_
 refine aq (.inl rfl) (aI rfl (ak rfl)) (fun w1 hw=> ?_)
 exact⟨congrArg (fun b=>Ending.returned (Value.bool b)) ((by
  rw[show decide (((a.gen.toNat:Nat):Int)=((d.gen.toNat:Nat):Int))=decide (a.gen.toNat=d.gen.toNat)from decide_eq_decide.2 (by omega),Bool.eq_iff_iff]
  simp only[Bool.and_eq_true,decide_eq_true_eq]
  rw[To,and_assoc,and_assoc];rfl)),ah.mem hw⟩
instance ai7{w0:World}{L:List ai}{a:bM}{d:bM}[ha:aU w0 L a][hd:aU w0 L d]:cB Tryz.prog 14 w0 L [.agg (bF a), .agg (bF d)] (.bool (decide (vv a=vv d))) (True):=⟨fun hp w hw=>Y9 w a d (ha.h w hw) (hd.h w hw)⟩
open Go.aC Go.Kb
open Go.RowKit
theorem Za(n s:Int)(b:Sv)(xs:List Bk)(w:World):(Instr.build 25 #[(0, .int .i64 n),(1, .int .i64 s),(2,b.val)]).run Tryz.prog w= .ok (.agg (aB ⟨n,s,⟨b,xs⟩,0,false,⟨Sv.none,[]⟩⟩)) w:=by
 unfold aB
 obtain⟨e,b,o,l,c,p⟩:=b
 cases e<;>kernel_rfl
theorem Zb(w:World)(b:Int)(n:Int)(s:Int):Calls Tryz.prog 31 #[.int .i64 b, .int .i64 n, .int .i64 s] w fun e w'=> ∃zz:Cp,e= .returned (.tuple #[.agg (aB zz), .int .i64 ((nI b n s).2)])∧(cv zz=(nI b n s).1)∧Mem w [fz zz] w':=by
 refine ba (args:=[_,_,_]) Tryz.func31 rfl Tryz.ntmps31 rfl ?_
 change Cw _ _ _ _ _ [(0, .int .i64 b),(1, .int .i64 n),(2, .int .i64 s)] []
 refine Gc ?_
 refine bK fun b6=> ?_
 refine Gs ?_
 refine Gc ?_
 iterate 5 refine Gs ?_
 refine Gc ?_
 refine au rfl (fun h0=> ?_) (fun h0=> ?_)
 ·
  replace h0:=bz h0
  have hN:nI b n s=(⟨0,0,[],0,false,[]⟩,1):=by rw[nI,if_neg (by rw[h0];simp)]
  refine Gc ?_
  refine ag (cR (v:= .agg (aB fX)) rfl (fun w=>by kernel_rfl)) ?_
  iterate 2 refine Gs ?_
  refine Gc ?_
  refine aq (.inl rfl) (bm rfl (cc rfl) (ak rfl)) (fun w1 hw=> ?_)
  exact⟨fX,by rw[hN],by rw[hN];rfl,J3 (d:=fX) rfl (show Mem w [own bI 4 Sv.none [],ai.all []] _ from ah.mem (Mem.uR (Mem.dP bI 4 (ah.mem hw:Mem w [] _))))⟩
 ·
  replace h0:=bz h0
  have gX:=jI.1 h0
  have hN:nI b n s=(⟨n,s,List.replicate b.toNat (⟨List.replicate n.toNat (gw s),0,0,false⟩:BV),0,false,[]⟩,0):=by rw[nI,if_pos h0]
  refine Gc ?_
  iterate 3 refine Gs ?_
  refine s9 (enc:=bI) (n:=b.toNat) (cap:=b.toNat) oA rfl rfl rfl (by omega) (by omega) (by omega) (by omega) (by omega) fun ie=> ?_
  refine ag (cR (v:= .agg (aB (⟨n,s,⟨⟨false,ie,0,b.toNat,b.toNat,none⟩,[]⟩,0,false,⟨Sv.none,[]⟩⟩:Cp))) rfl (Za n s ⟨false,ie,0,b.toNat,b.toNat,none⟩ [])) ?_
  refine bK fun b8=> ?_
  refine Gs ?_
  refine Gc ?_
  iterate 2 refine Gs ?_
  refine Gc ?_
  refine ca (X:=Nat×List Bk) (fun zz=>[(23, .int .i64 (zz.1:Nat)),(8, .pointer (some ⟨b8,0,none⟩)),(1, .int .i64 n),(2, .int .i64 s),(6, .pointer (some ⟨b6,0,none⟩)),(22, .int .i64 b)]) (fun zz=>[own bI 4 ⟨false,ie,0,b.toNat,b.toNat,none⟩ zz.2,ai.all ((zz.2.take zz.1).map fun b:Bk=>fz b.pages),ar b8 (aB (⟨n,s,⟨⟨false,ie,0,b.toNat,b.toNat,none⟩,[]⟩,0,false,⟨Sv.none,[]⟩⟩:Cp)) 25,ar b6 (aB fX) 25]) (fun zz=>zz.1≤b.toNat∧zz.2.length=b.toNat∧(zz.2.take zz.1).map bv=List.replicate zz.1 (⟨List.replicate n.toNat (gw s),0,0,false⟩:BV)∧ ∀j,zz.1≤j→j<b.toNat→zz.2[j]? =Option.some oA) (fun zz=>b.toNat -zz.1) (0,List.replicate b.toNat oA) ⟨Nat.zero_le _,by simp,by simp,fun j _ hj=>by simp[hj]⟩ (Sub.cons rfl (Sub.cons rfl (Sub.cons rfl (Sub.cons rfl (Sub.cons rfl (Sub.cons rfl (Sub.nil _))))))) (fun w hw=>by
   simp only[List.take_zero,List.map_nil];exact ah.mem (Mem.uR hw)) ?_
  rintro⟨i,zs⟩ ⟨bh,aF,bt,cS⟩
  dsimp only
  simp only at bh aF bt cS
  refine Gc ?_
  refine Gs ?_
  refine Gc ?_
  refine au rfl (fun h1=> ?_) (fun h1=> ?_)
  ·
   replace h1:=bz h1
   obtain⟨z,hz⟩:=get_some (xs:=zs) (i:=i) (by omega)
   obtain rfl:z=oA:=Option.some.inj (hz.symm.trans (cS i (Nat.le_refl _) (by omega)))
   have Zc:=BK (b:=ie) (n:=b.toNat) (by omega)
   refine Gc ?_
   iterate 2 refine Gs ?_
   refine Gc ?_
   refine jn [4,7] [[],[],[],[],[],[4],[4],[4]] [0,1,2,3,4,5,6,7] [ar b8 (aB (⟨n,s,⟨⟨false,ie,0,b.toNat,b.toNat,none⟩,[]⟩,0,false,⟨Sv.none,[]⟩⟩:Cp)) 25] (fun _ hw=>ah.mem hw) (by kernel_rfl) (by kernel_rfl) ?_
   refine al rfl (aH (o':=2) rfl rfl) ?_
   refine al rfl (bH rfl) ?_
   refine al rfl (aD rfl) ?_
   refine al rfl (aD rfl) ?_
   refine dE rfl (Jr (enc:=bY (τ:=UInt8)) (n:=n.toNat) (cap:=n.toNat) (⟨Sv.none,[]⟩:Sl UInt8) rfl rfl rfl (by omega) (by omega) (by omega) (by omega) (by omega) fun fH=>⟨fun _ hw=>ah.mem hw,?_⟩)
   obtain⟨e31,ai8⟩:=get_some (xs:=zs) (i:=i) (by omega)
   refine al rfl (lK (s:=⟨false,ie,0,b.toNat,b.toNat,none⟩) (i:=i) rfl rfl rfl Zc (by simp only;omega)) ?_
   refine al rfl (aH rfl rfl) ?_
   refine dE rfl (uO (s:=⟨false,ie,0,b.toNat,b.toNat,none⟩) (n:=1) (k:=i) (j:=0) (a:=oA) (a':=⟨⟨⟨false,fH,0,n.toNat,n.toNat,none⟩,[]⟩,0,0,false⟩) (xs:=zs) (enc:=bI) (c:=4) (v:=(⟨false,fH,0,n.toNat,n.toNat,none⟩:Sv).val) (by kernel_rfl) rfl rfl rfl hz (by rw[Sv.iU];simp[Sv.one]) (by rw[Sv.iU];rfl) (by decide) (by rw[Sv.iU];rfl) ⟨fun _ hw=>ah.mem hw,?_⟩)
   iterate 3 refine Gi ?_
   have Nc:(zs.set i ⟨⟨⟨false,fH,0,n.toNat,n.toNat,none⟩,[]⟩,0,0,false⟩)[i]? =Option.some (⟨⟨⟨false,fH,0,n.toNat,n.toNat,none⟩,[]⟩,0,0,false⟩:Bk):=List.getElem?_set_self (by omega)
   have oK:(zs.set i ⟨⟨⟨false,fH,0,n.toNat,n.toNat,none⟩,[]⟩,0,0,false⟩).length=b.toNat:=by rw[List.length_set];exact aF
   refine Gi ?_
   iterate 2 refine Gs ?_
   refine Gc ?_
   refine ca (X:=Nat×List (Sl UInt8)) (fun zz=>[(34, .int .i64 (zz.1:Nat)),(8, .pointer (some ⟨b8,0,none⟩)),(1, .int .i64 n),(2, .int .i64 s),(6, .pointer (some ⟨b6,0,none⟩)),(9, .int .i64 (i:Nat)),(22, .int .i64 b),(23, .int .i64 (i:Nat)),(33, .int .i64 n)]) (fun zz=>[own (bY (τ:=UInt8)) 1 ⟨false,fH,0,n.toNat,n.toNat,none⟩ zz.2,ai.all ((zz.2.take zz.1).map fun b:Sl UInt8=>fz b),own bI 4 ⟨false,ie,0,b.toNat,b.toNat,none⟩ (zs.set i ⟨⟨⟨false,fH,0,n.toNat,n.toNat,none⟩,[]⟩,0,0,false⟩),ai.all ((zs.take i).map fun b:Bk=>fz b.pages),ar b8 (aB (⟨n,s,⟨⟨false,ie,0,b.toNat,b.toNat,none⟩,[]⟩,0,false,⟨Sv.none,[]⟩⟩:Cp)) 25,ar b6 (aB fX) 25]) (fun zz=>zz.1≤n.toNat∧zz.2.length=n.toNat∧aJ (zz.2.take zz.1)=List.replicate zz.1 (gw s)) (fun zz=>n.toNat -zz.1) (0,List.replicate n.toNat ⟨Sv.none,[]⟩) ⟨Nat.zero_le _,by simp,by simp[aJ]⟩ (Sub.cons rfl (Sub.cons rfl (Sub.cons rfl (Sub.cons rfl (Sub.cons rfl (Sub.cons rfl (Sub.cons rfl (Sub.cons rfl (Sub.cons rfl (Sub.nil _)))))))))) (fun w hw=>by
    simp only[List.take_zero,List.map_nil]
    exact ah.mem (Mem.uR hw)) ?_
   rintro⟨j,qs⟩ ⟨ic,dz,iP⟩
   dsimp only
   simp only at ic dz iP
   refine Gc ?_
   refine Gs ?_
   refine Gc ?_
   refine au rfl (fun h2=> ?_) (fun h2=> ?_)
   ·
    replace h2:=bz h2
    obtain⟨y,hy⟩:=get_some (xs:=qs) (i:=j) (by omega)
    have Zd:=BK (b:=fH) (n:=n.toNat) (by omega)
    refine Gc ?_
    iterate 2 refine Gs ?_
    refine Gc ?_
    refine jn [8,10] [[],[],[],[],[],[],[],[],[],[8],[8]] [0,1,2,3,4,5,6,7,8,9,10] [ar b8 (aB (⟨n,s,⟨⟨false,ie,0,b.toNat,b.toNat,none⟩,[]⟩,0,false,⟨Sv.none,[]⟩⟩:Cp)) 25,own bI 4 ⟨false,ie,0,b.toNat,b.toNat,none⟩ (zs.set i ⟨⟨⟨false,fH,0,n.toNat,n.toNat,none⟩,[]⟩,0,0,false⟩)] (fun _ hw=>ah.mem hw) (by kernel_rfl) (by kernel_rfl) ?_
    refine al rfl (aH (o':=2) rfl rfl) ?_
    refine al rfl (bH rfl) ?_
    refine al rfl (aD rfl) ?_
    obtain⟨zX,Ys⟩:=get_some (xs:=(zs.set i ⟨⟨⟨false,fH,0,n.toNat,n.toNat,none⟩,[]⟩,0,0,false⟩)) (i:=i) (by omega)
    refine al rfl (bg (s:=⟨false,ie,0,b.toNat,b.toNat,none⟩) (xs:=(zs.set i ⟨⟨⟨false,fH,0,n.toNat,n.toNat,none⟩,[]⟩,0,0,false⟩)) rfl rfl i rfl (by omega)) ?_
    refine al rfl (aH rfl rfl) ?_
    refine al rfl (Ry.to (v':=(⟨false,fH,0,n.toNat,n.toNat,none⟩:Sv).val) (bL (s:=⟨false,ie,0,b.toNat,b.toNat,none⟩) (j:=0) rfl i Nc rfl (by decide)) rfl) ?_
    refine al rfl (aD rfl) ?_
    refine al rfl (aD rfl) ?_
    refine dE rfl (Jr (enc:=aM) (n:=s.toNat) (cap:=s.toNat) 0 rfl rfl rfl (by omega) (by omega) (by omega) (by omega) (by omega) fun pL=>⟨fun _ hw=>ah.mem hw,?_⟩)
    obtain⟨e46,ai9⟩:=get_some (xs:=qs) (i:=j) (by omega)
    refine al rfl (lK (s:=⟨false,fH,0,n.toNat,n.toNat,none⟩) (i:=j) rfl rfl rfl Zd (by simp only;omega)) ?_
    refine dE rfl (Re (s:=⟨false,fH,0,n.toNat,n.toNat,none⟩) (xs:=qs) (k:=j) (a:=y) (⟨⟨false,pL,0,s.toNat,s.toNat,none⟩,gw s⟩:Sl UInt8) (by kernel_rfl) rfl rfl (by omega) hy ⟨fun _ hw=>ah.mem hw,?_⟩)
    refine Gc ?_
    iterate 3 refine Gs ?_
    obtain⟨e50,aja⟩:=get_some (xs:=(zs.set i ⟨⟨⟨false,fH,0,n.toNat,n.toNat,none⟩,[]⟩,0,0,false⟩)) (i:=i) (by omega)
    refine ag (bg (s:=⟨false,ie,0,b.toNat,b.toNat,none⟩) (xs:=(zs.set i ⟨⟨⟨false,fH,0,n.toNat,n.toNat,none⟩,[]⟩,0,0,false⟩)) rfl rfl i rfl (by omega)) ?_
    refine ag (aH rfl rfl) ?_
    refine ag (Ry.to (v':=(⟨false,fH,0,n.toNat,n.toNat,none⟩:Sv).val) (bL (s:=⟨false,ie,0,b.toNat,b.toNat,none⟩) (j:=0) rfl i Nc rfl (by decide)) rfl) ?_
    refine Gs ?_
    refine ag (bg rfl rfl j rfl (by rw[List.length_set];omega)) ?_
    refine ag (Ry.to (v':= .slice (some ⟨(⟨false,pL,0,s.toNat,s.toNat,none⟩:Sv).b,(⟨false,pL,0,s.toNat,s.toNat,none⟩:Sv).o+0,none⟩) s.toNat s.toNat) (bL (s:=⟨false,fH,0,n.toNat,n.toNat,none⟩) (xs:=qs.set j (⟨⟨false,pL,0,s.toNat,s.toNat,none⟩,gw s⟩:Sl UInt8)) (j:=0) rfl j (List.getElem?_set_self (by omega)) rfl (by decide)) rfl) ?_
    refine bq (hc:=Uv (rm:=⟨false,pL,0,s.toNat,s.toNat,none⟩) (k:=0) (n:=s.toNat) (cap:=s.toNat) (xs:=List.replicate s.toNat 0)) rfl ⟨by simp,by omega⟩ fun CN GM=> ?_
    refine Gc ?_
    iterate 2 refine Gs ?_
    refine Gi ?_
    exact bx (x:=(j,qs)) (j+1,qs.set j (⟨⟨false,pL,0,s.toNat,s.toNat,none⟩,gw s⟩:Sl UInt8)) ⟨by first|omega|(simp only[];omega),by rw[List.length_set];exact dz,by rw[aJ,BJ hy,←aJ,iP,List.replicate_succ']⟩ (by simp only;omega) (Sub.cons rfl (Sub.cons rfl (Sub.cons rfl (Sub.cons rfl (Sub.cons rfl (Sub.cons rfl (Sub.cons rfl (Sub.cons rfl (Sub.cons rfl (Sub.nil _)))))))))) (fun w hw=>by
     have h1:=EH (a:=(⟨⟨false,pL,0,s.toNat,s.toNat,none⟩,gw s⟩:Sl UInt8)) (by
      simp only[List.take_zero,List.nil_append,Nat.zero_add,List.drop_replicate,Nat.sub_self,List.replicate_zero,List.append_nil]at hw
      exact(ah.mem hw:Mem _ (own aM 1 ⟨false,pL,0,s.toNat,s.toNat,none⟩ (List.replicate s.toNat 255)::[own (bY (τ:=UInt8)) 1 ⟨false,fH,0,n.toNat,n.toNat,none⟩ (qs.set j (⟨⟨false,pL,0,s.toNat,s.toNat,none⟩,gw s⟩:Sl UInt8)),ai.all ((qs.take j).map fun b:Sl UInt8=>fz b),own bI 4 ⟨false,ie,0,b.toNat,b.toNat,none⟩ (zs.set i ⟨⟨⟨false,fH,0,n.toNat,n.toNat,none⟩,[]⟩,0,0,false⟩),ai.all ((zs.take i).map fun b:Bk=>fz b.pages),ar b8 (aB (⟨n,s,⟨⟨false,ie,0,b.toNat,b.toNat,none⟩,[]⟩,0,false,⟨Sv.none,[]⟩⟩:Cp)) 25,ar b6 (aB fX) 25]) _))
     have h3:=Mem.wC (ah.mem h1:Mem _ (fz (⟨⟨false,pL,0,s.toNat,s.toNat,none⟩,gw s⟩:Sl UInt8)::ai.all ((qs.take j).map fun b:Sl UInt8=>fz b)::[own (bY (τ:=UInt8)) 1 ⟨false,fH,0,n.toNat,n.toNat,none⟩ (qs.set j (⟨⟨false,pL,0,s.toNat,s.toNat,none⟩,gw s⟩:Sl UInt8)),own bI 4 ⟨false,ie,0,b.toNat,b.toNat,none⟩ (zs.set i ⟨⟨⟨false,fH,0,n.toNat,n.toNat,none⟩,[]⟩,0,0,false⟩),ai.all ((zs.take i).map fun b:Bk=>fz b.pages),ar b8 (aB (⟨n,s,⟨⟨false,ie,0,b.toNat,b.toNat,none⟩,[]⟩,0,false,⟨Sv.none,[]⟩⟩:Cp)) 25,ar b6 (aB fX) 25]) _)
     rw[ES (z':=(⟨⟨false,pL,0,s.toNat,s.toNat,none⟩,gw s⟩:Sl UInt8)) hy]at h3
     exact ah.mem h3)
   ·
    replace h2:=bz h2
    have sR:j=n.toNat:=by omega
    have jj:j=qs.length:=by omega
    rw[List.take_of_length_le (by omega)]at iP
    refine Gc ?_
    iterate 2 refine Gs ?_
    refine Gi ?_
    exact bx (x:=(i,zs)) (i+1,zs.set i (⟨⟨⟨false,fH,0,n.toNat,n.toNat,none⟩,qs⟩,0,0,false⟩:Bk)) ⟨by first|omega|(simp only[];omega),by rw[List.length_set];exact aF,by rw[BJ hz,bt,List.replicate_succ',show bv (⟨⟨⟨false,fH,0,n.toNat,n.toNat,none⟩,qs⟩,0,0,false⟩:Bk)=(⟨List.replicate n.toNat (gw s),0,0,false⟩:BV) by rw[bv,iP,sR]],fun k hk og=>by rw[List.getElem?_set_ne (by first|omega|(simp only[];omega))];exact cS k (by first|omega|(simp only[];omega)) og⟩ (by simp only;omega) (Sub.cons rfl (Sub.cons rfl (Sub.cons rfl (Sub.cons rfl (Sub.cons rfl (Sub.cons rfl (Sub.nil _))))))) (fun w hw=>by
     rw[List.take_of_length_le (by omega)]at hw
     have h1:=ER (ah.mem hw:Mem _ (own (bY (τ:=UInt8)) 1 ⟨false,fH,0,n.toNat,n.toNat,none⟩ qs::ai.all (qs.map fun b:Sl UInt8=>fz b)::[own bI 4 ⟨false,ie,0,b.toNat,b.toNat,none⟩ (zs.set i ⟨⟨⟨false,fH,0,n.toNat,n.toNat,none⟩,[]⟩,0,0,false⟩),ai.all ((zs.take i).map fun b:Bk=>fz b.pages),ar b8 (aB (⟨n,s,⟨⟨false,ie,0,b.toNat,b.toNat,none⟩,[]⟩,0,false,⟨Sv.none,[]⟩⟩:Cp)) 25,ar b6 (aB fX) 25]) _)
     have h2:=EJ (ys:=zs.set i (⟨⟨⟨false,fH,0,n.toNat,n.toNat,none⟩,qs⟩,0,0,false⟩:Bk)) (by rw[List.map_set,List.map_set];rfl) (ah.mem h1:Mem _ (own bI 4 ⟨false,ie,0,b.toNat,b.toNat,none⟩ (zs.set i ⟨⟨⟨false,fH,0,n.toNat,n.toNat,none⟩,[]⟩,0,0,false⟩)::[fz (⟨⟨false,fH,0,n.toNat,n.toNat,none⟩,qs⟩:Sl (Sl UInt8)),ai.all ((zs.take i).map fun b:Bk=>fz b.pages),ar b8 (aB (⟨n,s,⟨⟨false,ie,0,b.toNat,b.toNat,none⟩,[]⟩,0,false,⟨Sv.none,[]⟩⟩:Cp)) 25,ar b6 (aB fX) 25]) _)
     have h3:=Mem.wC (ah.mem h2:Mem _ (fz (⟨⟨false,fH,0,n.toNat,n.toNat,none⟩,qs⟩:Sl (Sl UInt8))::ai.all ((zs.take i).map fun b:Bk=>fz b.pages)::[own bI 4 ⟨false,ie,0,b.toNat,b.toNat,none⟩ (zs.set i (⟨⟨⟨false,fH,0,n.toNat,n.toNat,none⟩,qs⟩,0,0,false⟩:Bk)),ar b8 (aB (⟨n,s,⟨⟨false,ie,0,b.toNat,b.toNat,none⟩,[]⟩,0,false,⟨Sv.none,[]⟩⟩:Cp)) 25,ar b6 (aB fX) 25]) _)
     rw[J4 (z':=(⟨⟨⟨false,fH,0,n.toNat,n.toNat,none⟩,qs⟩,0,0,false⟩:Bk)) hz]at h3
     exact ah.mem h3)
  ·
   replace h1:=bz h1
   obtain rfl:i=zs.length:=by omega
   rw[List.take_length]at bt
   refine Gc ?_
   iterate 3 refine Gs ?_
   refine Gc ?_
   refine aq (.inl rfl) (bm rfl (cc rfl) (ak rfl)) (fun w1 hw=> ?_)
   exact⟨⟨n,s,⟨⟨false,ie,0,b.toNat,b.toNat,none⟩,zs⟩,0,false,⟨Sv.none,[]⟩⟩,by rw[hN];rfl,by rw[hN];simp only[cv,gu];rw[bt,aF],J3 rfl (by rw[List.take_length]at hw;exact ah.mem hw)⟩
instance ajb{w0:World}{L:List ai}{b:Int}{n:Int}{s:Int}:cl Tryz.prog 31 w0 L [.int .i64 b, .int .i64 n, .int .i64 s] (Cp) (fun zz=> .tuple #[.agg (aB zz), .int .i64 ((nI b n s).2)]) (fun zz=>fz zz::L) (fun zz=>cv zz=(nI b n s).1) (True):=⟨fun hp w hw=>(Zb w b n s).mono fun e w' ⟨x,h1,h2,h3⟩=>⟨x,h1,h2,hw.call h3⟩⟩
end Go.Proofs.YtaipiecplldinaaGreat
namespace Go.aC
open Go.RowKit
section
variable {P:Program} {N:cz} {w0:World} {env:Env} {L:List ai} {l:List Oper} {Q:Exit→Act→World→Prop} {rest:List Oper} {d:Option Tmp} {ty:TypeId} {ps:String} {af:Array Edge}
end
end Go.aC
namespace Go.Proofs.YtaipiecplldinaaGreat
open Go.aC Go.Kb
open Go.RowKit
open Go.aC Go.Kb
open Go.RowKit
end Go.Proofs.YtaipiecplldinaaGreat
namespace Go.Kb
section
variable {α:Type} (f:α→Nat)
def Ze(l:List α):Prop:=l.Pairwise fun a b=>f a≤f b
structure Zf(l l':List α):Prop where
 Zg:Ze f l'
 same: ∀k,l'.filter (fun x=>decide (f x=k))=l.filter (fun x=>decide (f x=k))
variable {f}
def ins(f:α→Nat)(x:α):List α→List α
 |[]=>[x]
 |y::r=>if f y<f x then y::ins f x r else x::y::r
def Zg(f:α→Nat)(l:List α):List α:=l.foldr (ins f) []
end
section
variable {α:Type} {f:α→Nat} {xs ys zs:List α} {a b m i j k s e:Nat}
def C1(xs:List α)(i j:Nat):List α:=(xs.drop i).take (j -i)
theorem parts(h1:a≤b)(h2:b≤xs.length):xs=xs.take a++C1 xs a b++xs.drop b:=by
 rw[C1,List.append_assoc]
 conv=>lhs;rw[←List.take_append_drop a xs,←List.take_append_drop (b -a) (xs.drop a),List.drop_drop,show a+(b -a)=b by omega]
end
end Go.Kb
namespace Go.aC
open Go.RowKit Go.Kb
section
variable {P:Program} {w0 w:World} {L:List ai} {α:Type} {enc:α→Array Value} {c:Nat} {s:Sv} {xs:List α}
end
section
variable {P:Program} {N:cz} {w0:World} {env:Env} {L:List ai} {l:List Oper} {Q:Exit→Act→World→Prop} {rest:List Oper} {d:Option Tmp} {ty:TypeId} {ps:String} {af:Array Edge} {gd:Option (Nat×Bool)}
end
open Go.Kb
section
variable {α:Type} {f:α→Nat} {xs ys zs ts:List α} {a b m i j k n:Nat}
theorem four{P U W V S:List α}(t:Nat):(P++(U++(W++(V++S))))[t]? =if t<P.length then P[t]?else if t<P.length+U.length then U[t -P.length]?else if t<P.length+U.length+W.length then W[t -P.length -U.length]?else if t<P.length+U.length+W.length+V.length then V[t -P.length -U.length -W.length]?else S[t -P.length -U.length -W.length -V.length]? :=by
 simp only[List.getElem?_append]
 by_cases c1:t<P.length
 ·
  rw[if_pos c1,if_pos c1]
 ·
  rw[if_neg c1,if_neg c1]
  by_cases c2:t<P.length+U.length
  ·
   rw[if_pos c2,if_pos (show t -P.length<U.length by omega)]
  ·
   rw[if_neg c2,if_neg (show ¬t -P.length<U.length by omega)]
   by_cases c3:t<P.length+U.length+W.length
   ·
    rw[if_pos c3,if_pos (show t -P.length -U.length<W.length by omega)]
   ·
    rw[if_neg c3,if_neg (show ¬t -P.length -U.length<W.length by omega)]
    by_cases c4:t<P.length+U.length+W.length+V.length
    ·
     rw[if_pos c4,if_pos (show t -P.length -U.length -W.length<V.length by omega)]
    ·
     rw[if_neg c4,if_neg (show ¬t -P.length -U.length -W.length<V.length by omega)]
end
end Go.aC
namespace Go.Kb
variable {t:List Rt} {k:Key} {bits:Int}
variable {t u:List Rt} {r:Rt} {k:Key} {bits:Int}
theorem ajc(he:dS t [⟨r,false⟩]=0):fq t ⟨r,false⟩=0∧cH t [⟨r,false⟩]=jy t ⟨r,false⟩:=by
 have hr:dr t=true:=by
  cases h:dr t with
  |true=>rfl
  |false=>rw[dS,if_neg (by rw[h];simp)]at he;omega
 have h2:=he
 rw[dS,if_pos hr,k7]at h2
 have hc:fq t ⟨r,false⟩=0:=by
  apply Classical.byContradiction;intro hn
  rw[if_neg hn]at h2;exact hn h2
 exact⟨hc,by rw[cH,if_pos he,k7,if_pos hc];rfl⟩
theorem C2{c:Ch}(he:fq t c=0):c5 c.r.p=true:=by
 apply Classical.byContradiction;intro hn
 rw[fq,if_neg hn]at he;omega
variable {t u:List Rt} {r:Rt} {q p:dh}
theorem Nf(hp:c5 p=true)(hq:c5 q=true)(h:dV p q=false)(hn:p≠q):dV q p=true:=by
 rw[lN hq hp]
 have h1: ¬dV p q=true:=by rw[h];simp
 rw[lN hp hq]at h1
 have h2: ¬(p.bits=q.bits∧p.key.toNat=q.key.toNat∧p.len=q.len):=fun e=>hn (QK.2 e)
 omega
theorem Ng(hp:c5 p=true)(hq:c5 q=true)(h:dV p q=true):dV q p=false:=by
 cases hx:dV q p with
 |false=>rfl
 |true=>rw[lN hq hp]at hx;rw[lN hp hq]at h;omega
theorem Nh(hp:c5 p=true)(h:dV p q=true):p≠q:=fun e=>by subst e;rw[zk hp]at h;cases h
theorem Ni{a b c:dh}(ha:c5 a=true)(hb:c5 b=true)(hc:c5 c=true)(h1:dV a b=true)(h2:dV b c=true):dV a c=true:=by
 rw[lN ha hb]at h1;rw[lN hb hc]at h2;rw[lN ha hc];omega
def ua(t:List Rt)(q:dh):List Rt:=t.filter fun x=>dV x.p q
def qD(t:List Rt)(q:dh):List Rt:=t.filter fun x=>dV q x.p
theorem filter_all{α:Type}{f:α→Bool}{l:List α}(h: ∀x∈l,f x=true):l.filter f=l:=List.filter_eq_self.2 h
theorem filter_none{α:Type}{f:α→Bool}{l:List α}(h: ∀x∈l,f x=false):l.filter f=[]:=List.filter_eq_nil_iff.2 fun x hx=>by rw[h x hx];simp
theorem Ord.ext: ∀{s t:List Rt},Ord s→Ord t→(∀x,x∈s↔x∈t)→s=t
 |[],[],_,_,_=>rfl
 |[],b::t,_,_,h=>by have:=(h b).2 (List.mem_cons_self);cases this
 |a::s,[],_,_,h=>by have:=(h a).1 (List.mem_cons_self);cases this
 |a::s,b::t,hs,ht,h=>by
  have ha:=(List.pairwise_cons.1 hs.less)
  have hb:=(List.pairwise_cons.1 ht.less)
  have ma:=hs.may a List.mem_cons_self
  have mb:=ht.may b List.mem_cons_self
  have e:a=b:=by
   apply Classical.byContradiction;intro hn
   rcases List.mem_cons.1 ((h a).1 List.mem_cons_self)with h1|h1
   ·
    exact hn h1
   ·
    rcases List.mem_cons.1 ((h b).2 List.mem_cons_self)with h2|h2
    ·
     exact hn h2.symm
    ·
     have h3:=hb.1 a h1
     have h4:=ha.1 b h2
     rw[Ng mb ma h3]at h4;cases h4
  subst e
  have bW: ∀x,(∀y∈s,dV a.p y.p=true)→x∈s→x≠a:=fun x hy hx e=>by
   subst e;have:=hy x hx;rw[zk ma]at this;cases this
  rw[Ord.ext (hs.sub (List.sublist_cons_self _ _)) (ht.sub (List.sublist_cons_self _ _)) fun x=>⟨fun hx=> ?_,fun hx=> ?_⟩]
  ·
   rcases List.mem_cons.1 ((h x).1 (List.mem_cons_of_mem _ hx))with h1|h1
   ·
    exact absurd h1 (bW x ha.1 hx)
   ·
    exact h1
  ·
   rcases List.mem_cons.1 ((h x).2 (List.mem_cons_of_mem _ hx))with h1|h1
   ·
    subst h1;have:=hb.1 x hx;rw[zk ma]at this;cases this
   ·
    exact h1
theorem Zh(h:dr t=true)(hq:c5 q=true):(∀x∈t.take (cK t q),dV x.p q=true)∧ ∀x∈t.drop (cK t q),dV x.p q=false:=by
 obtain⟨h1,h2,h3⟩:=Lm (p:=behind t q) (n:=t.length) fun a b=>Lp h hq a b
 constructor
 ·
  intro x hx
  obtain⟨i,hi⟩:=List.mem_iff_getElem?.1 hx
  have eP:=(List.getElem?_eq_some_iff.1 hi).1
  rw[List.length_take]at eP
  rw[List.getElem?_take,if_pos (by omega)]at hi
  have:=h2 i (by have:cK t q=bs (behind t q) t.length:=rfl;omega)
  simpa[behind,hi]using this
 ·
  intro x hx
  obtain⟨i,hi⟩:=List.mem_iff_getElem?.1 hx
  rw[List.getElem?_drop]at hi
  have eP:=(List.getElem?_eq_some_iff.1 hi).1
  have:=h3 (cK t q+i) (Nat.le_add_right _ _) eP
  simpa[behind,hi]using this
theorem Nj(h:dr t=true)(hq:c5 q=true):t.take (cK t q)=ua t q∧(kF t q=true→t.drop (cK t q+1)=qD t q)∧(kF t q=false→t.drop (cK t q)=qD t q):=by
 obtain⟨h1,h2⟩:=Zh h hq
 have ho:=Ci h
 have e:t=t.take (cK t q)++t.drop (cK t q):=(List.take_append_drop _ _).symm
 have hm: ∀x∈t,c5 x.p=true:=ho.may
 have mt: ∀x∈t.take (cK t q),x∈t:=fun x hx=>List.mem_of_mem_take hx
 have md: ∀x∈t.drop (cK t q),x∈t:=fun x hx=>List.mem_of_mem_drop hx
 have k1:t.take (cK t q)=ua t q:=by
  unfold ua
  conv=>rhs;rw[e]
  rw[List.filter_append,filter_all h1,filter_none h2,List.append_nil]
 have k2:qD t q=qD (t.drop (cK t q)) q:=by
  unfold qD
  conv=>lhs;rw[e]
  rw[List.filter_append,filter_none (l:=t.take (cK t q)) fun x hx=>Ng (hm x (mt x hx)) hq (h1 x hx),List.nil_append]
 refine⟨k1,fun hb=> ?_,fun hb=> ?_⟩
 ·
  obtain⟨x,hx,hi,hp⟩:=zl hb
  obtain⟨eP,nx⟩:=List.getElem?_eq_some_iff.1 hi
  have e2:t.drop (cK t q)=x::t.drop (cK t q+1):=by rw[←nx,List.getElem_cons_drop]
  rw[k2,e2,qD,List.filter_cons,hp,zk hq]
  simp only[Bool.false_eq_true,if_false]
  refine(filter_all fun y hy=> ?_).symm
  obtain⟨j,hj⟩:=List.mem_iff_getElem?.1 hy
  rw[List.getElem?_drop]at hj
  have:=Cg h (cK t q) (cK t q+1+j) x y (by omega) hi hj
  rw[hp]at this;exact this
 ·
  rw[k2]
  refine(filter_all fun y hy=> ?_).symm
  refine Nf (hm y (md y hy)) hq (h2 y hy) fun ep=> ?_
  have:=(TJ h hq (md y hy) ep).2
  rw[hb]at this;cases this
theorem Zi(h:dr t=true)(he:fq t ⟨r,false⟩=0):jy t ⟨r,false⟩=ua t r.p++r::qD t r.p:=by
 obtain⟨k1,k2,k3⟩:=Nj h (C2 he)
 rw[jy,if_pos he,if_neg (by simp)]
 by_cases hb:kF t r.p=true
 ·
  obtain⟨x,hx,hi,hp⟩:=zl hb
  have eP:=(List.getElem?_eq_some_iff.1 hi).1
  rw[if_pos hb,List.set_eq_take_append_cons_drop,if_pos eP,k1,k2 hb]
 ·
  rw[if_neg hb]
  show t.take (cK t r.p)++r::t.drop (cK t r.p)=_
  rw[k1,k3 (by simpa using hb)]
theorem Zj(h:dr t=true)(he:fq t ⟨r,true⟩=0):jy t ⟨r,true⟩=ua t r.p++qD t r.p:=by
 have hm:=C2 he
 obtain⟨k1,k2,k3⟩:=Nj h hm
 have hb:kF t r.p=true:=by
  apply Classical.byContradiction;intro hn
  rw[fq,if_pos hm,if_neg hn,if_pos rfl]at he;omega
 rw[jy,if_pos he,if_pos rfl]
 show t.take (cK t r.p)++t.drop (cK t r.p+1)=_
 rw[k1,k2 hb]
theorem Zk(h:Ord t)(hq:c5 q=true):t.filter (fun x=>decide (x.p≠q))=ua t q++qD t q:=by
 refine Ord.ext (h.sub List.filter_sublist) ⟨fun x hx=> ?_,?_⟩ fun x=> ?_
 ·
  rcases List.mem_append.1 hx with h1|h1<;>exact h.may x (List.mem_filter.1 h1).1
 ·
  refine List.pairwise_append.2 ⟨h.less.sublist List.filter_sublist,h.less.sublist List.filter_sublist,fun a ha b hb=> ?_⟩
  have ha:=List.mem_filter.1 ha
  have hb:=List.mem_filter.1 hb
  exact Ni (h.may a ha.1) hq (h.may b hb.1) ha.2 hb.2
 ·
  rw[List.mem_append,List.mem_filter,ua,qD,List.mem_filter,List.mem_filter]
  constructor
  ·
   rintro⟨h1,h2⟩
   cases h3:dV x.p q with
   |true=>exact .inl ⟨h1,rfl⟩
   |false=>exact .inr ⟨h1,Nf (h.may x h1) hq h3 (by simpa using h2)⟩
  ·
   rintro(⟨h1,h2⟩|⟨h1,h2⟩)
   ·
    exact⟨h1,by simpa using Nh (h.may x h1) h2⟩
   ·
    exact⟨h1,by simpa using(Nh hq h2).symm⟩
theorem Zl(h:Ord t)(hr:c5 r.p=true):Ord (ua t r.p++r::qD t r.p):=by
 refine⟨fun x hx=> ?_,?_⟩
 ·
  rcases List.mem_append.1 hx with h1|h1
  ·
   exact h.may x (List.mem_filter.1 h1).1
  ·
   rcases List.mem_cons.1 h1 with rfl|h1
   ·
    exact hr
   ·
    exact h.may x (List.mem_filter.1 h1).1
 ·
  refine List.pairwise_append.2 ⟨h.less.sublist List.filter_sublist,List.pairwise_cons.2 ⟨fun y hy=>(List.mem_filter.1 hy).2,h.less.sublist List.filter_sublist⟩,fun a ha b hb=> ?_⟩
  have ha:=List.mem_filter.1 ha
  rcases List.mem_cons.1 hb with rfl|hb
  ·
   exact ha.2
  ·
   have hb:=List.mem_filter.1 hb
   exact Ni (h.may a ha.1) hr (h.may b hb.1) ha.2 hb.2
theorem Zm(h:dr t=true)(c:Ch):dr (jy t c)=true:=by
 by_cases he:fq t c=0
 ·
  refine TK ?_ (Lw (Bw h) c)
  obtain⟨r,g⟩:=c
  cases g with
  |false=>rw[Zi h he];exact Zl (Ci h) (C2 he)
  |true=>rw[Zj h he,←Zk (Ci h) (C2 he)];exact(Ci h).sub List.filter_sublist
 ·
  rw[jy,if_neg he];exact h
end Go.Kb
namespace Go.aC
open Go.Kb
section
variable {α:Type} {f:α→Nat} {xs ys zs ts:List α} {a b c m i j k n s e:Nat}
def Bk(f:α→Nat)(xs ys:List α)(c lo hi:Nat):Prop:= ∀s,lo≤s→s<hi→s%c=0→Zf f (C1 xs s (min (s+c) xs.length)) (C1 ys s (min (s+c) xs.length))
end
open Go.Kb
open Go.Kb
variable {t ts:List Rt} {k:Key} {bits:Int} {p:dh}
def Fz(ts:List Rt):List Rt:=ts.filter fun r=>decide (r.p.bits=32)
end Go.aC
namespace Go.Proofs.YtaipiecplldinaaGreat
open Go.aC Go.Kb
open Go.aC Go.Kb
open Go.RowKit
theorem Zn{f g:cm}:bE f=bE g↔vv f.an=vv g.an∧f.table.xs=g.table.xs:=by
 simp only[bE,FV.mk.injEq]
theorem Zo(w:World)(f:cm)(g:cm)(hf:Deep.aY (hp w) f)(hg:Deep.aY (hp w) g):Calls Tryz.prog 23 #[.agg (bO f), .agg (bO g)] w fun e w'=>e= .returned (.bool (decide (bE f=bE g)))∧Mem w [] w':=by
 have zZ:cg w f:=⟨hf⟩
 have ghg:cg w g:=⟨hg⟩
 have Y6:=hf.2.1.bd
 have hbg:=hg.2.1.bd
 refine ba (args:=[_,_]) Tryz.func23 rfl Tryz.ntmps23 rfl ?_
 change Cw _ _ _ _ _ [(0, .agg (bO f)),(1, .agg (bO g))] []
 refine Gc ?_
 refine bX rfl fun b2=> ?_
 refine bX rfl fun b3=> ?_
 refine Gs ?_
 refine Gc ?_
 refine Gs ?_
 refine ag (iA rfl) ?_
 refine Gs ?_
 refine ag (iA rfl) ?_
 iterate 2 refine Gs ?_
 iterate 4 refine Gg ?_
 refine gN rfl rfl rfl (fun hg=>cC (dA (aG hg rfl) (dA (aG hg rfl) gE)) (by simp only[Z0,Z1,Z2,Z3,Z4,Z5,Z6,Z7,Z8,Z9]at hg;omega)) ?_
 iterate 2 refine Gs ?_
 refine Gc ?_
 refine aq (.inl rfl) (aI rfl (ak rfl)) (fun w1 hw=> ?_)
 exact⟨congrArg (fun b=>Ending.returned (Value.bool b)) ((by rw[Bool.eq_iff_iff];simp only[Bool.and_eq_true,decide_eq_true_eq];exact Zn.symm)),ah.mem hw⟩
instance ajd{w0:World}{L:List ai}{f:cm}{g:cm}[hf:aU w0 L f][hg:aU w0 L g]:cB Tryz.prog 23 w0 L [.agg (bO f), .agg (bO g)] (.bool (decide (bE f=bE g))) (True):=⟨fun hp w hw=>Zo w f g (hf.h w hw) (hg.h w hw)⟩
end Go.Proofs.YtaipiecplldinaaGreat
namespace Go.Kb
open Go.aC
def Nk:Key:=oo fun i=>if i=0 then 10 else 0
def vz:Key:=oo fun i=>if i=0 then 10 else if i=1 then 1 else 0
def pM(h:UInt16):Rt:=⟨⟨32,8,Nk⟩,h⟩
def Hb:CV×Int:=nI 6 2 64
def Hc:FV×Int:=nO Hb.1
def C3:FV×Int:=cY Hc.1 [⟨pM 7,false⟩]
def vA:FV×Int:=dg C3.1.an.ae
theorem Zp:Hb.2=0:=by decide+kernel
theorem Zq:Hc.2=0:=by decide+kernel
theorem Zr:C3.2=0:=by decide+kernel
theorem Zs:vA.2=0:=by decide+kernel
theorem Zt:vc vA.1 vz 32=0:=by decide+kernel
theorem Zu:(vb vA.1 vz 32).dN=7:=by decide+kernel
theorem Zv:vA.1.table.length=1:=by decide+kernel
theorem Zw:gh vA.1=true:=by decide+kernel
theorem Zx:pC 6 2 64=4:=by decide+kernel
end Go.Kb
namespace Go.Proofs.YtaipiecplldinaaGreat
open Go.aC Go.Kb
open Go.RowKit
theorem Zy{f:cm}{v:FV}(e:bE f=v)(h:LZ v=true):dQ f.an.ae∧f.an.at_.xs.length≤1000000∧f.table.xs.length≤1000000:=by
 subst e
 simp only[LZ,Bool.and_eq_true,decide_eq_true_eq]at h
 exact⟨ph h.1.1,h.1.2,h.2⟩
theorem Zz(w:World)(h:UInt16):Calls Tryz.prog 53 #[.int .u16 (h.toNat:Nat)] w fun e w'=>e= .returned (.agg (ay (pM h)))∧Mem w [] w':=by
 refine ba (args:=[_]) Tryz.func53 rfl Tryz.ntmps53 rfl ?_
 change Cw _ _ _ _ _ [(0, .int .u16 (h.toNat:Nat))] []
 refine Gc ?_
 refine bK fun b2=> ?_
 refine Gc ?_
 refine ag (cR (v:= .agg (cW Nk)) rfl (fun w=>by kernel_rfl)) ?_
 refine ag (cR (v:= .agg (c6 (pM h).p)) rfl (fun w=>by kernel_rfl)) ?_
 refine Gs ?_
 refine ag (cR (v:= .agg (ay (pM h))) rfl (fun w=>by kernel_rfl)) ?_
 refine Gs ?_
 refine Gc ?_
 refine aq (.inl rfl) (aI rfl (cc rfl)) (fun w1 hw=> ?_)
 exact⟨rfl,ah.mem hw⟩
instance aje{w0:World}{L:List ai}{h:UInt16}:cB Tryz.prog 53 w0 L [.int .u16 (h.toNat:Nat)] (.agg (ay (pM h))) (True):=⟨fun hp w hw=>Zz w h⟩
theorem ZA(w:World):Calls Tryz.prog 20 #[] w fun e w'=>e= .returned (.bool true)∧Mem w [] w':=by
 refine ba (args:=[]) Tryz.func20 rfl Tryz.ntmps20 rfl ?_
 change Cw _ _ _ _ _ [] []
 refine Gc ?_
 refine Gs ?_
 refine Gc ?_
 refine bq rfl trivial fun pJ GK=> ?_
 have xJ:cv pJ=Hb.1:=GK
 have ig:(nI 6 2 64).2=0:=Zp
 have ZB:dQ pJ:=ph (by rw[xJ];decide+kernel)
 refine Gs ?_
 refine ag (aV (v:= .agg (aB pJ)) rfl rfl) ?_
 refine ag (aV (v:= .int .i64 ((nI 6 2 64).2)) rfl rfl) ?_
 refine bK fun b1=> ?_
 iterate 2 refine Gs ?_
 refine Gc ?_
 refine Gs ?_
 refine bq rfl ZB fun fG zN=> ?_
 have He:bE fG=Hc.1:=by rw[zN,xJ];rfl
 have ij:(nO (cv pJ)).2=0:=by rw[xJ];exact Zq
 have ZC:=Zy He (by decide+kernel)
 refine Gs ?_
 refine ag (aV (v:= .agg (bO fG)) rfl rfl) ?_
 refine ag (aV (v:= .int .i64 ((nO (cv pJ)).2)) rfl rfl) ?_
 refine bK fun b3=> ?_
 iterate 2 refine Gs ?_
 refine Gc ?_
 refine qa [3,4,8,9,2003,2008,4004] [[],[],[],[],[3],[3,4],[3,4],[3,4],[],[3,4,8],[3,4,8,9]] [0,1,2,3,4,5,6,7,8,9,10] [ar b3 (bO fG) 54,fz fG] [(3,qY fO 20 1 [(⟨pM 7,false⟩:Ch)]),(8,kR Tryz.prog 54)] (by kernel_rfl) (fun _ hw=>ah.mem hw) (by kernel_rfl) (by kernel_rfl) ?_
 refine al rfl (fI rfl) ?_
 refine uP rfl (cC (vs:=[.int .u16 ((7:UInt16).toNat:Int)]) rfl trivial) ?_
 refine al rfl (sS rfl) ?_
 refine oy (m:=qY fO 20 1 [(⟨pM 7,false⟩:Ch)]) rfl rfl (Ev (enc:=fO) (c:=20) (n:=1) (vals:=[.agg (fO (⟨pM 7,false⟩:Ch))]) [(⟨pM 7,false⟩:Ch)] rfl rfl rfl (by decide) (by decide)) (Cert.one (i:=8) rfl rfl rfl jX (Cert.none rfl)) fun Nl=> ?_
 change Ln _ _ _ _ _ _ _ _ (cw _ _ (Sv.val ⟨false,Nl,0,1,1,none⟩)) (own fO 20 ⟨false,Nl,0,1,1,none⟩ [(⟨pM 7,false⟩:Ch)]::_) _
 refine sd rfl rfl ZC (fun e x w hw=>ah.mem hw) (Cert.one (i:=8) rfl rfl rfl jX (Cert.none rfl)) fun vn Gw=>⟨fun _ hw=>ah.mem hw,?_⟩
 have ZD:bE vn=C3.1:=by rw[Gw,He];rfl
 have ik:(cY (bE fG) [(⟨pM 7,false⟩:Ch)]).2=0:=by rw[He];exact Zr
 have Nm:cv vn.an.ae=C3.1.an.ae:=congrArg (fun z:FV=>z.an.ae) ZD
 refine al rfl (aD rfl) ?_
 refine al rfl (aV (v:= .agg (bO vn)) rfl rfl) ?_
 refine al rfl (aV (v:= .int .i64 ((cY (bE fG) [(⟨pM 7,false⟩:Ch)]).2)) rfl rfl) ?_
 refine oy (m:=kR Tryz.prog 54) rfl rfl jX (Cert.none rfl) fun b5=> ?_
 change Ln _ _ _ _ _ _ _ _ (cw _ _ (.pointer (some ⟨b5,0,none⟩))) (ar b5 (bO ly) 54::_) _
 refine dE rfl (ox rfl rfl ⟨fun _ hw=>ah.mem hw,?_⟩)
 refine al rfl (bl rfl) ?_
 refine Gc ?_
 iterate 2 refine Gs ?_
 refine ag (iA rfl) ?_
 refine bq rfl trivial fun az sE=> ?_
 have C4:bE az=vA.1:=by rw[sE,Nm];rfl
 have iq:(dg (cv vn.an.ae)).2=0:=by rw[Nm];exact Zs
 have ir:az.table.xs.length=1:=by rw[show az.table.xs=vA.1.table from congrArg FV.table C4];exact Zv
 have iu:vc (bE az) vz 32=0:=by rw[C4];exact Zt
 have iv:(vb (bE az) vz 32).dN=7:=by rw[C4];exact Zu
 have iw:gh (bE az)=true:=by rw[C4];exact Zw
 have gY:pC 6 2 64=4:=Zx
 refine Gs ?_
 refine ag (aV (v:= .agg (bO az)) rfl rfl) ?_
 refine ag (aV (v:= .int .i64 ((dg (cv vn.an.ae)).2)) rfl rfl) ?_
 refine bK fun b7=> ?_
 iterate 2 refine Gs ?_
 refine Gc ?_
 refine Gs ?_
 refine ag (cR (v:= .agg (cW vz)) rfl (fun w=>by kernel_rfl)) ?_
 iterate 2 refine Gs ?_
 refine ag (aV (v:= .agg (ay (vb (bE az) vz 32))) rfl rfl) ?_
 refine ag (aV (v:= .int .i64 (vc (bE az) vz 32)) rfl rfl) ?_
 refine bK fun b9=> ?_
 iterate 2 refine Gs ?_
 refine Gc ?_
 iterate 3 refine Gs ?_
 refine kP rfl rfl rfl (by simp[ig,ij,ik,iq,iu,iv,ir,iw,gY]) (Ry.yl (aD rfl)) ?_
 refine kP rfl rfl rfl (by simp[ig,ij,ik,iq,iu,iv,ir,iw,gY]) (Ry.yl (cx rfl rfl rfl)) ?_
 refine ag (td rfl (by simp[ig,ij,ik,iq,iu,iv,ir,iw,gY]) rfl rfl) ?_
 refine Gs ?_
 refine kP rfl rfl rfl (by simp[ig,ij,ik,iq,iu,iv,ir,iw,gY]) (Ry.yl (aD rfl)) ?_
 refine kP rfl rfl rfl (by simp[ig,ij,ik,iq,iu,iv,ir,iw,gY]) (Ry.yl (cx rfl rfl rfl)) ?_
 refine ag (td rfl (by simp[ig,ij,ik,iq,iu,iv,ir,iw,gY]) rfl rfl) ?_
 refine Gs ?_
 refine kP rfl rfl rfl (by simp[ig,ij,ik,iq,iu,iv,ir,iw,gY]) (Ry.yl (aD rfl)) ?_
 refine kP rfl rfl rfl (by simp[ig,ij,ik,iq,iu,iv,ir,iw,gY]) (Ry.yl (cx rfl rfl rfl)) ?_
 refine ag (td rfl (by simp[ig,ij,ik,iq,iu,iv,ir,iw,gY]) rfl rfl) ?_
 refine Gs ?_
 refine kP rfl rfl rfl (by simp[ig,ij,ik,iq,iu,iv,ir,iw,gY]) (Ry.yl (aD rfl)) ?_
 refine kP rfl rfl rfl (by simp[ig,ij,ik,iq,iu,iv,ir,iw,gY]) (Ry.yl (cx rfl rfl rfl)) ?_
 refine ag (td rfl (by simp[ig,ij,ik,iq,iu,iv,ir,iw,gY]) rfl rfl) ?_
 refine Gs ?_
 refine kP rfl rfl rfl (by simp[ig,ij,ik,iq,iu,iv,ir,iw,gY]) (Ry.yl (aH (o':=18) rfl rfl)) ?_
 refine kP rfl rfl rfl (by simp[ig,ij,ik,iq,iu,iv,ir,iw,gY]) (Ry.yl (bH rfl)) ?_
 refine kP rfl rfl rfl (by simp[ig,ij,ik,iq,iu,iv,ir,iw,gY]) (Ry.yl (cx rfl rfl rfl)) ?_
 refine ag (td rfl (by simp[ig,ij,ik,iq,iu,iv,ir,iw,gY]) rfl rfl) ?_
 refine Gs ?_
 refine kP rfl rfl rfl (by simp[ig,ij,ik,iq,iu,iv,ir,iw,gY]) (Ry.yl (aH (o':=9) rfl rfl)) ?_
 refine kP rfl rfl rfl (by simp[ig,ij,ik,iq,iu,iv,ir,iw,gY]) (Ry.yl (bH rfl)) ?_
 refine kP rfl rfl rfl (by simp[ig,ij,ik,iq,iu,iv,ir,iw,gY]) (Ry.yl (lg rfl)) ?_
 refine kP rfl rfl rfl (by simp[ig,ij,ik,iq,iu,iv,ir,iw,gY]) (Ry.yl (cx rfl rfl rfl)) ?_
 refine ag (td rfl (by simp[ig,ij,ik,iq,iu,iv,ir,iw,gY]) rfl rfl) ?_
 refine Gs ?_
 refine kP rfl rfl rfl (by simp[ig,ij,ik,iq,iu,iv,ir,iw,gY]) (Ry.yl (fI rfl)) ?_
 refine kP rfl rfl rfl (by simp[ig,ij,ik,iq,iu,iv,ir,iw,gY]) (cC rfl trivial) ?_
 refine ag (td rfl (by simp[ig,ij,ik,iq,iu,iv,ir,iw,gY]) rfl rfl) ?_
 refine Gs ?_
 refine kP rfl rfl rfl (by simp[ig,ij,ik,iq,iu,iv,ir,iw,gY]) (cC rfl trivial) ?_
 refine kP rfl rfl rfl (by simp[ig,ij,ik,iq,iu,iv,ir,iw,gY]) (Ry.yl (cx rfl rfl rfl)) ?_
 refine ag (td rfl (by simp[ig,ij,ik,iq,iu,iv,ir,iw,gY]) rfl rfl) ?_
 refine Gs ?_
 refine Gc ?_
 refine aq (.inl rfl) (aI rfl (ak rfl)) (fun w1 hw=> ?_)
 exact⟨congrArg (fun b=>Ending.returned (Value.bool b)) ((by simp[gY])),ah.mem hw⟩
instance ajf{w0:World}{L:List ai}:cB Tryz.prog 20 w0 L [] (.bool true) (True):=⟨fun hp w hw=>ZA w⟩
end Go.Proofs.YtaipiecplldinaaGreat
namespace Go.Kb
open Go.aC
theorem Hf{x:Int}(h0:0≤x)(h1:x<256):((cM x).toNat:Int)=x:=by
 rw[cM,b8,Int.emod_eq_of_lt h0 h1]
 simp;omega
theorem xM{α:Type}{a b:List α}{n:Nat}(h:n=a.length):(a++b).drop n=b:=by subst h;simp
theorem C5{α:Type}{a b:List α}{n:Nat}(h:n=a.length):(a++b).take n=a:=by subst h;simp
theorem Nn{p:PV}{n:Int}(h:kv p n=true): ∃k d:UInt8,∃z:List UInt8,(k.toNat:Int)=p.kind∧(d.toNat:Int)=p.id∧(∀x∈z,x=0)∧
  (c8 p n).1=[k,d]++(be p.gen 6++(be p.body.length 2++(p.body++(z++be (lP (iY p n.toNat)) 4))))∧iY p n.toNat=[k,d]++(be p.gen 6++(be p.body.length 2++(p.body++z)))∧(c8 p n).2=0∧(z.length:Int)=n -14 -p.body.length:=by
 obtain⟨h1,h2,h3,h4,h5,h6⟩:=pj.1 h
 have hf:=qd.1 h1
 rw[dv,if_pos h1]at h6
 refine⟨cM p.kind,cM p.id,List.replicate (n.toNat -4 -10 -p.body.length) 0,Hf (by omega) (by omega),Hf h3 (by omega),fun x hx=>List.eq_of_mem_replicate hx,?_,?_,?_,?_⟩
 ·
  rw[c8,if_pos h];simp only[iY,List.append_assoc]
 ·
  simp only[iY,List.append_assoc]
 ·
  rw[c8,if_pos h]
 ·
  rw[List.length_replicate];omega
theorem Aa{p:PV}{n:Int}(h:kv p n=true):((c8 p n).1.length:Int)=n:=by
 obtain⟨k,d,z,_,_,_,e,_,_,hz⟩:=Nn h
 rw[e]
 simp only[List.length_append,List.length_cons,List.length_nil,hO]
 omega
theorem Hg{p:PV}{n:Int}(h:kv p n=true):cr (c8 p n).1=(p,0):=by
 have hl:=Aa h
 obtain⟨k,d,z,hk,hd,hz,e,eB,_,oK⟩:=Nn h
 obtain⟨h1,h2,h3,h4,h5,h6⟩:=pj.1 h
 have hf:=qd.1 h1
 have wU:=h6
 rw[dv,if_pos h1]at wU
 have hn:((c8 p n).1.length:Int)=n:=hl
 generalize hc:lP (iY p n.toNat)=C at e
 have hC:C<2^32:=by rw[←hc];exact EF _
 generalize hb:(c8 p n).1=b at*
 have e4:b=iY p n.toNat++be C 4:=by rw[e,eB];simp only[List.append_assoc]
 have l4:b.length -4=(iY p n.toNat).length:=by rw[e4,List.length_append,hO];omega
 have gL:kV b=iY p n.toNat:=by
  rw[kV,l4,List.drop_zero,Nat.sub_zero,e4];exact C5 rfl
 have CE:de (uV b)=C:=by
  rw[uV,l4]
  have:b.drop (iY p n.toNat).length=be C 4:=by rw[e4];exact xM rfl
  rw[this,List.take_of_length_le (by rw[hO];omega),Bv,Nat.mod_eq_of_lt hC]
 have oO:b.getD 0 0=k:=by rw[e];rfl
 have rE:b.getD 1 0=d:=by rw[e];rfl
 have wa:b.drop 2=be p.gen 6++(be p.body.length 2++(p.body++(z++be C 4))):=by rw[e];exact xM rfl
 have No:b.drop 8=be p.body.length 2++(p.body++(z++be C 4)):=by
  rw[show(8:Nat)=2+6 from rfl,←List.drop_drop,wa];exact xM (by rw[hO])
 have ZE:b.drop 10=p.body++(z++be C 4):=by
  rw[show(10:Nat)=8+2 from rfl,←List.drop_drop,No];exact xM (by rw[hO])
 have ZF:de ((b.drop 2).take (8 -2))=p.gen:=by
  rw[wa,C5 (by rw[hO]),Bv,Nat.mod_eq_of_lt (Nat.lt_of_lt_of_eq h5 (by decide))]
 have Hh:gI b=p.body.length:=by
  rw[gI,No,C5 (by rw[hO]),Bv,Nat.mod_eq_of_lt (by omega)]
 have Np:sf b={p with body:=[]}:=by
  rw[sf,ZF,oO,rE]
  obtain⟨pk,pi,pg,pb⟩:=p
  simp only at hk hd
  simp only[hk,hd]
 have ZG:iX b=false:=by
  cases Cv:iX b with
  |false=>rfl
  |true=>
   have h9:=y0.1 Cv k (by rw[e];simp)
   rw[h9]at hk
   have:((255:UInt8).toNat:Int)=255:=by decide
   omega
 have ZH:na b=true:=by
  have hm:kv (sf b) b.length=true:=by
   rw[Np,hn]
   exact pj.2 ⟨h1,h2,h3,h4,h5,by rw[dv,if_pos h1];simp only[List.length_nil];omega⟩
  rw[na,hm,Hh,hn,Bool.and_true,decide_eq_true_eq]
  exact h6
 have hzero:tm (mr b)=true:=by
  refine ET.2 fun x hx=>hz x ?_
  have ZI:(kV b).drop (10+gI b)=z:=by
   rw[gL,Hh,eB,←List.drop_drop]
   have:([k,d]++(be p.gen 6++(be p.body.length 2++(p.body++z)))).drop 10=p.body++z:=by
    rw[show[k,d]++(be p.gen 6++(be p.body.length 2++(p.body++z)))=([k,d]++be p.gen 6++be p.body.length 2)++(p.body++z) by simp only[List.append_assoc]]
    exact xM (by simp only[List.length_append,List.length_cons,List.length_nil,hO])
   rw[this];exact xM rfl
  rw[mr,ZI]at hx
  exact List.mem_of_mem_take hx
 have ZJ:(b.drop 10).take (10+gI b -10)=p.body:=by
  rw[ZE,Hh];exact C5 (by omega)
 rw[cr,if_neg (by rw[hn,h1];simp),if_neg (by rw[ZG];simp),if_neg (by rw[CE,gL,hc];exact fun h=>h rfl),if_neg (by rw[ZH];simp),if_neg (by rw[hzero];simp),Np,ZJ]
theorem ZK{x:Int}(h0:0≤x)(h1:x≤65535):((qT (cM (x/256)) (cM x)).toNat:Int)=x:=by
 have e2:((cM x).toNat:Int)=x%256:=by
  rw[cM,b8];simp;omega
 have e1:=Hf (x:=x/256) (by omega) (by omega)
 rw[D3]
 omega
theorem Nq: ∀(l:List Int) (i:Nat) (x:Int),l[i]? =some x→(fZ l).getD (2*i) 0=cM (x/256)∧(fZ l).getD (2*i+1) 0=cM x
 |y::r,0,x,h=>by obtain rfl:y=x:=by simpa using h
                 exact⟨rfl,rfl⟩
 |y::r,i+1,x,h=>by
  have h2:=Nq r i x (by simpa using h)
  have e:fZ (y::r)=cM (y/256)::cM y::fZ r:=rfl
  rw[e,show 2*(i+1)=2*i+1+1 by omega]
  exact h2
theorem ZL{l:List Int}(h: ∀x∈l,uW x=true):nK (fZ l)=l:=by
 refine List.ext_getElem? fun i=> ?_
 rcases Nat.lt_or_ge i l.length with hi|hi
 ·
  obtain⟨x,hx⟩: ∃x,l[i]? =some x:=⟨l[i],List.getElem?_eq_getElem hi⟩
  obtain⟨e1,e2⟩:=Nq l i x hx
  have jL:=y4.1 (h x (List.mem_of_getElem? hx))
  rw[nK,List.getElem?_map,wH,List.getElem?_range (by omega),hx,Option.map_some,pn,e1,e2,ZK jL.1 jL.2]
 ·
  rw[List.getElem?_eq_none hi,List.getElem?_eq_none (by rw[BM,wH];omega)]
theorem Hi{r:RV}{n:Int}(h:mu r n=true):kv ⟨2,max 0 ((r.at_.length:Int) -1),r.gen,fZ r.at_⟩ n=true:=by
 obtain⟨h1,h2,h3,h4⟩:=tn.1 h
 have hf:lR n=true:=by
  cases hf:lR n with
  |true=>rfl
  |false=>rw[dv,if_neg (by rw[hf];simp)]at h1;exact absurd rfl h1
 rw[jt]at h3
 have hr:dv n=n -16:=by rw[dv,if_pos hf]
 refine pj.2 ⟨hf, .inr rfl,?_,?_,h2,?_⟩
 ·
  show 0≤max 0 _;omega
 ·
  show max 0 _<(64:Int);omega
 ·
  show((fZ r.at_).length:Int)≤_;rw[wH];omega
theorem ZM{r:RV}{n:Int}(h:mu r n=true):bB (cN r n).1=(r,0):=by
 have hp:=Hg (Hi h)
 have h4:=(tn.1 h).2.2.2
 rw[cN,if_pos h,bB,hp]
 have hl:(fZ r.at_).length/2=r.at_.length:=by rw[wH];omega
 rw[if_neg (by simp),if_neg (by simp),if_neg,ZL h4]
 simp only[sh,Bool.not_eq_false,Bool.and_eq_true,decide_eq_true_eq]
 refine⟨⟨trivial,by rw[wH];omega⟩,?_⟩
 rw[hl]
theorem Nr{r:RV}{n:Int}(h:mu r n=true):((cN r n).1.length:Int)=n:=by
 rw[cN,if_pos h];exact Aa (Hi h)
theorem ZN{r:RV}{n:Int}(h:(cN r n).2=0):mu r n=true:=by
 cases hm:mu r n with
 |true=>rfl
 |false=>rw[cN,if_neg (by rw[hm];simp)]at h;cases h
theorem Ns{p:PV}{n:Int}(h:(c8 p n).2=0):kv p n=true:=by
 cases hm:kv p n with
 |true=>rfl
 |false=>rw[c8,if_neg (by rw[hm];simp)]at h;cases h
open Go.aC
theorem rI{c:CV}{b:Nat}{o:Int}{f:Bool}{B:BV}(hb:b<c.blocks.length)(k:Int):aj {c with ops:=o,off:=f,blocks:=c.blocks.set b B} k=if k.toNat=b then B else aj c k:=by
 simp only[aj,List.getD,List.getElem?_set]
 by_cases h:b=k.toNat
 ·
  rw[if_pos h,if_pos (by omega),if_pos h.symm];rfl
 ·
  rw[if_neg h,if_neg (fun g=>h g.symm)]
structure Kd(L:List Int)(c d:CV):Prop where
 bS:dw c d
 ok:aT c=true→aT d=true
 mJ:d.aR=c.aR
 C6: ∀b:Int,(aj c b).bad=true→aj d b=aj c b
 on:c.off=false→(∀f∈c.aR,f.cut=false)→d.off=false
 ops:c.ops≤d.ops
 nm: ∀n∈L,n≠0→jJ c (n -1)=true→jJ d (n -1)=true∧bJ d (n -1)=bJ c (n -1)
structure Kp(L:List Int)(c d:CV):Prop extends Kd L c d where
 r0: ∀b:Int,b<2→(aj d b).pages=(aj c b).pages∧(aj d b).used=(aj c b).used
theorem Kd.cX(L:List Int)(c:CV):Kd L c c:=⟨.cX c,id,rfl,fun _ _=>rfl,fun h _=>h,Int.le_refl _,fun _ _ _ h=>⟨h,rfl⟩⟩
theorem Kp.cX(L:List Int)(c:CV):Kp L c c:=⟨.cX L c,fun _ _=>⟨rfl,rfl⟩⟩
theorem Kd.trans{L:List Int}{c d e:CV}(h:Kd L c d)(g:Kd L d e):Kd L c e where
 bS:=h.bS.trans g.bS
 ok:=fun k=>g.ok (h.ok k)
 mJ:=g.mJ.trans h.mJ
 C6:=fun b hb=>by
  have h1:=h.C6 b hb
  rw[←h1]at hb
  exact(g.C6 b hb).trans h1
 on:=fun h1 h2=>g.on (h.on h1 h2) (by rw[h.mJ];exact h2)
 ops:=Int.le_trans h.ops g.ops
 nm:=fun n hn h0 hp=>by
  obtain⟨h1,h2⟩:=h.nm n hn h0 hp
  obtain⟨g1,g2⟩:=g.nm n hn h0 h1
  exact⟨g1,g2.trans h2⟩
theorem Kp.trans{L:List Int}{c d e:CV}(h:Kp L c d)(g:Kp L d e):Kp L c e:=
 ⟨h.toKd.trans g.toKd,fun b hb=>⟨(g.r0 b hb).1.trans (h.r0 b hb).1,(g.r0 b hb).2.trans (h.r0 b hb).2⟩⟩
theorem Kd.sub{L M:List Int}{c d:CV}(h:Kd L c d)(hs: ∀n∈M,n∈L):Kd M c d:={h with nm:=fun n hn=>h.nm n (hs n hn)}
theorem Kp.sub{L M:List Int}{c d:CV}(h:Kp L c d)(hs: ∀n∈M,n∈L):Kp M c d:=⟨h.toKd.sub hs,h.r0⟩
theorem Hj{L:List Int}{c:CV}{b:Int}{o:Int}{f:Bool}{B:BV}(hh:fY c b=true)(hk:aT c=true→aT {c with ops:=o,off:=f,blocks:=c.blocks.set b.toNat B}=true)(ZO:(aj c b).bad=true→B=aj c b)
  (ft:c.off=false→(∀f∈c.aR,f.cut=false)→f=false) (ho:c.ops≤o)
  (hn: ∀n∈L,n≠0→jJ c (n -1)=true→(n -1)/c.pages=b→(n -1)%c.pages<B.used∧B.pages.getD ((n -1)%c.pages).toNat []=(aj c b).pages.getD ((n -1)%c.pages).toNat []):
  Kd L c {c with ops:=o,off:=f,blocks:=c.blocks.set b.toNat B} where
 bS:=⟨rfl,rfl,by simp⟩
 ok:=hk
 mJ:=rfl
 C6:=fun k hb=>by
  obtain⟨_,h2,h3⟩:=gv.1 hh
  rw[rI (by omega)]
  split
  ·
   rename_i e
   have e2:aj c k=aj c b:=by simp only[aj,e]
   rw[e2]at hb⊢
   exact ZO hb
  ·
   rfl
 on:=ft
 ops:=ho
 nm:=fun n hm h0 hp=>by
  obtain⟨_,h2,h3⟩:=gv.1 hh
  obtain⟨p1,p2,p3⟩:=lj.1 hp
  have e:=rI (c:=c) (o:=o) (f:=f) (B:=B) (show b.toNat<c.blocks.length by omega) ((n -1)/c.pages)
  by_cases h:(n -1)/c.pages=b
  ·
   rw[h,if_pos rfl]at e
   obtain⟨g1,g2⟩:=hn n hm h0 hp h
   refine⟨lj.2 ⟨p1,by simpa using p2,?_⟩,?_⟩
   ·
    show _<(aj _ ((n -1)/c.pages)).used
    rw[h,e];exact g1
   ·
    show(aj _ ((n -1)/c.pages)).pages.getD _ []=(aj c ((n -1)/c.pages)).pages.getD _ []
    rw[h,e];exact g2
  ·
   rw[if_neg (by omega)]at e
   refine⟨lj.2 ⟨p1,by simpa using p2,?_⟩,?_⟩
   ·
    show _<(aj _ ((n -1)/c.pages)).used
    rw[e];exact p3
   ·
    show(aj _ ((n -1)/c.pages)).pages.getD _ []=(aj c ((n -1)/c.pages)).pages.getD _ []
    rw[e]
theorem Kd.roots{L:List Int}{c:CV}{b:Int}{o:Int}{f:Bool}{B:BV}(hh:fY c b=true)(h2:2≤b)(h:Kd L c {c with ops:=o,off:=f,blocks:=c.blocks.set b.toNat B}):Kp L c {c with ops:=o,off:=f,blocks:=c.blocks.set b.toNat B}:=
 ⟨h,fun k hk=>by
  obtain⟨_,h3,h4⟩:=gv.1 hh
  rw[rI (by omega),if_neg (by omega)]
  exact⟨rfl,rfl⟩⟩
theorem Nt{c:CV}(h: ∀f∈c.aR,f.cut=false):((bn c).2&&(bn c).1.cut)=false:=by
 rw[bn]
 cases hf:c.aR.find? fun f=>decide (f.op=c.ops)with
 |none=>rfl
 |some x=>simp only[h x (List.mem_of_find?_eq_some hf),Bool.and_false]
theorem ZP{L:List Int}{c:CV}{b:Int}{p:List UInt8}:Kd L c (fK c b (aj c b).used p):=by
 by_cases h:mq c b (aj c b).used p=true∧c.off=false∧(aj c b).bad=false∧(aj c b).used=(aj c b).used
 ·
  have e:fK c b (aj c b).used p=gR c b (aj c b).used p:=if_pos h
  have hk:=E9 (c:=c) (b:=b) (g:=(aj c b).used) (p:=p)
  rw[e]at hk
  obtain⟨h1,h2,h3,_⟩:=h
  obtain⟨j1,j2,j3,j4,j5⟩:=iW.1 h1
  rw[e,gR]
  refine Hj j1 hk (fun g=>by rw[h3]at g;cases g) (fun _ g=>Nt g) (by omega) fun n _ _ hp hb=> ?_
  obtain⟨p1,p2,p3⟩:=lj.1 hp
  rw[hb]at p3
  have h0:0≤(n -1)%c.pages:=Int.emod_nonneg _ (by omega)
  refine⟨by simp only;omega,?_⟩
  simp only[List.getD]
  rw[List.getElem?_set_ne (by omega)]
 ·
  rw[fK,if_neg h];exact .cX L c
theorem ZQ{L:List Int}{c:CV}{b:Int}:Kd L c (ku c b):=by
 by_cases h:m7 c b=0
 ·
  have hk:=KC (c:=c) (b:=b)
  rw[ku,if_pos h]at hk⊢
  have hh:fY c b=true:=by
   cases hq:fY c b with
   |true=>rfl
   |false=>rw[m7,if_neg (by rw[hq];simp)]at h;cases h
  refine Hj (o:=c.ops) (f:=c.off) hh hk (fun g=> ?_) (fun g _=>g) (Int.le_refl _) fun n _ _ hp hb=> ?_
  ·
   cases hB:aj c b with|mk a1 a2 a3 a4=>rw[hB]at g;simp only at g;rw[g]
  ·
   obtain⟨p1,p2,p3⟩:=lj.1 hp
   rw[hb]at p3
   exact⟨p3,rfl⟩
 ·
  rw[ku,if_neg h];exact .cX L c
theorem Nu{c:CV}{b k:Int}:(aj (ku c b) k).pages=(aj c k).pages∧(aj (ku c b) k).used=(aj c k).used:=by
 rw[ku];split
 ·
  rename_i h
  have hh:fY c b=true:=by
   cases hq:fY c b with
   |true=>rfl
   |false=>rw[m7,if_neg (by rw[hq];simp)]at h;cases h
  obtain⟨_,h3,h4⟩:=gv.1 hh
  have e:=rI (c:=c) (o:=c.ops) (f:=c.off) (B:={aj c b with bad:=true}) (show b.toNat<c.blocks.length by omega) k
  rw[e]
  split
  ·
   rename_i e2;have e3:aj c k=aj c b:=by simp only[aj,e2]
   rw[e3];exact⟨rfl,rfl⟩
  ·
   exact⟨rfl,rfl⟩
 ·
  exact⟨rfl,rfl⟩
theorem Ab{L:List Int}{c:CV}{b e:Int}:Kp L c (iE c b e):=by
 rw[iE];split
 ·
  exact⟨ZQ,fun k _=>Nu⟩
 ·
  exact .cX L c
theorem C7{L:List Int}{c:CV}{b:Int}{p:List UInt8}:Kd L c (bD c b p):=ZP.trans Ab.toKd
theorem Nv{c:CV}{b k g:Int}{p:List UInt8}(h:k.toNat≠b.toNat):aj (fK c b g p) k=aj c k:=by
 rw[fK];split
 ·
  rename_i hk
  obtain⟨_,h3,h4⟩:=gv.1 (iW.1 hk.1).1
  rw[gR,rI (by omega),if_neg h]
 ·
  rfl
theorem C8{L:List Int}{c:CV}{b:Int}{p:List UInt8}(h2:2≤b):Kp L c (bD c b p):=
 ⟨C7,fun k hk=>by
  have h1:=(Ab (L:=L) (c:=fK c b (aj c b).used p) (b:=b) (e:=bC c b p)).r0 k hk
  rw[bD,h1.1,h1.2,Nv (by omega)];exact⟨rfl,rfl⟩⟩
def jT(L:List Int)(c:CV)(b:Int):Prop:= ∀n∈L,n≠0→(n -1)/c.pages≠b
theorem Nw{L:List Int}{c:CV}{b:Int}(hd: ∀n∈L,n≠0→jJ c (n -1)=true→(n -1)/c.pages≠b):Kd L c (fA c b):=by
 by_cases h:m0 c b=true∧c.off=false∧(aj c b).bad=false
 ·
  have hk:=Fa (c:=c) (b:=b)
  rw[fA,if_pos h]at hk⊢
  obtain⟨h1,h2,h3⟩:=h
  have hh:=(nJ.1 h1).1
  rw[jZ]at hk⊢
  exact Hj hh hk (fun g=>by rw[h3]at g;cases g) (fun _ g=>Nt g) (by omega) fun n hn h0 hp hb=>absurd hb (hd n hn h0 hp)
 ·
  rw[fA,if_neg h];exact .cX L c
theorem ZR{L:List Int}{c:CV}{b:Int}(hd:jT L c b):Kd L c (fA c b):=Nw fun n hn h0 _=>hd n hn h0
theorem ZS{L:List Int}{c:CV}{b:Int}(hb:b<2):Kd L c (da c b):=(Nw fun n _ _ hp=>by have:=(lj.1 hp).1;omega).trans Ab.toKd
theorem ZT{L:List Int}{c:CV}{b:Int}(hd:jT L c b):Kd L c (da c b):=(ZR hd).trans Ab.toKd
theorem xN{c:CV}{b k:Int}(h:k.toNat≠b.toNat):aj (fA c b) k=aj c k:=by
 rw[fA];split
 ·
  rename_i hk
  obtain⟨_,h3,h4⟩:=gv.1 (nJ.1 hk.1).1
  rw[jZ,rI (by omega),if_neg h]
 ·
  rfl
theorem ZU{L:List Int}{c:CV}{b:Int}(h2:2≤b)(hd:jT L c b):Kp L c (da c b):=
 ⟨ZT hd,fun k hk=>by
  have h1:=(Ab (L:=L) (c:=fA c b) (b:=b) (e:=dF c b)).r0 k hk
  rw[da,h1.1,h1.2,xN (by omega)];exact⟨rfl,rfl⟩⟩
theorem jT.bS{L:List Int}{c d:CV}{b:Int}(h:jT L c b)(g:dw c d):jT L d b:=fun n hn h0=>by rw[g.pages];exact h n hn h0
theorem Nx{L:List Int}: ∀(n:Nat) {c:CV} {b:Int},2≤b→jT L c b→Kp L c (eY n c b).1
 |0,c,b,h2,hd=>ZU h2 hd
 |n+1,c,b,h2,hd=>by
  rw[eY];split
  ·
   exact C8 h2
  ·
   exact(C8 h2).trans (Nx n h2 (hd.bS (gU _ _ _)))
theorem vB{L:List Int}{c:CV}{b:Int}(h2:2≤b)(hd:jT L c b):Kp L c (cy c b).1:=Nx _ h2 hd
theorem ZV{c:CV}{b g:Int}{p:List UInt8}(h:jq c b g p=7):(fK c b g p).off=true:=by
 rw[jq]at h
 by_cases h1:mq c b g p=true
 ·
  rw[if_pos h1]at h
  by_cases h2:c.off=true
  ·
   rw[fK,if_neg (fun k=>by rw[h2]at k;cases k.2.1)];exact h2
  ·
   rw[if_neg h2]at h
   by_cases h3:(aj c b).bad=true∨g≠(aj c b).used
   ·
    rw[if_pos h3]at h;cases h
   ·
    rw[if_neg h3]at h
    by_cases h4:(bn c).2=true
    ·
     rw[if_pos h4,kt]at h
     have h5:(bn c).1.cut=true:=by
      cases hc:(bn c).1.cut with
      |true=>rfl
      |false=>rw[if_neg (by rw[hc];simp)]at h;cases h
     have xA:(aj c b).bad=false:=by
      cases hb:(aj c b).bad with
      |true=>exact absurd (.inl hb) h3
      |false=>rfl
     rw[fK,if_pos ⟨h1,by simpa using h2,xA,Classical.byContradiction fun k=>h3 (.inr k)⟩,gR,h4,h5];rfl
    ·
     rw[if_neg h4]at h;cases h
 ·
  rw[if_neg h1]at h;cases h
theorem Ny(c:CV)(b e:Int):(iE c b e).off=c.off:=by
 rw[iE];split
 ·
  rw[ku];split<;>rfl
 ·
  rfl
theorem C9{c:CV}{b:Int}{p:List UInt8}(h:bC c b p=7):(bD c b p).off=true:=by rw[bD,Ny];exact ZV h
theorem Nz{c:CV}{b:Int}(h:dF c b=7):(da c b).off=true:=by
 rw[da,Ny]
 rw[dF]at h
 by_cases h1:m0 c b=true
 ·
  rw[if_pos h1]at h
  by_cases h2:c.off=true
  ·
   rw[fA,if_neg (fun k=>by rw[h2]at k;cases k.2.1)];exact h2
  ·
   rw[if_neg h2]at h
   by_cases h3:(aj c b).bad=true
   ·
    rw[if_pos h3]at h;cases h
   ·
    rw[if_neg h3]at h
    by_cases h4:(bn c).2=true
    ·
     rw[if_pos h4,kt]at h
     have h5:(bn c).1.cut=true:=by
      cases hc:(bn c).1.cut with
      |true=>rfl
      |false=>rw[if_neg (by rw[hc];simp)]at h;cases h
     rw[fA,if_pos ⟨h1,by simpa using h2,by simpa using h3⟩,jZ,h4,h5];rfl
    ·
     rw[if_neg h4]at h;cases h
 ·
  rw[if_neg h1]at h;cases h
theorem NA: ∀(n:Nat) {c:CV} {b:Int},(eY n c b).2=7→(eY n c b).1.off=true
 |0,c,b,h=>Nz h
 |n+1,c,b,h=>by
  rw[eY]at h⊢
  by_cases h0:bC c b (gT c)≠0
  ·
   rw[if_pos h0]at h⊢;exact C9 h
  ·
   rw[if_neg h0]at h⊢;exact NA n h
theorem Ac{c:CV}{b:Int}(h:(cy c b).2=7):(cy c b).1.off=true:=NA _ h
open Go.aC
def Pl(c:CV)(a:List Int):Prop:=(∀(i:Nat) (y:Int),a[i]? =some y→y≠0→lS c (i:Int) y=true)∧ ∀(i j:Nat) (y:Int),a[i]? =some y→a[j]? =some y→y≠0→i=j
theorem Hk{a:List Int}{i:Nat}{y:Int}:(a.take i).contains y=true↔ ∃j,j<i∧a[j]? =some y:=by
 rw[List.contains_iff_mem,List.mem_take_iff_getElem]
 constructor
 ·
  rintro⟨j,hj,e⟩
  exact⟨j,by omega,by rw[List.getElem?_eq_getElem (by omega),e]⟩
 ·
  rintro⟨j,hj,e⟩
  obtain⟨hl,e2⟩:=List.getElem?_eq_some_iff.1 e
  exact⟨j,by omega,e2⟩
theorem NB{c:CV}{a:List Int}:ra c a=true↔Pl c a:=by
 rw[y5]
 constructor
 ·
  intro h
  have hp: ∀(i:Nat) (y:Int),a[i]? =some y→y≠0→(a.take i).contains y=false∧lS c (i:Int) y=true:=fun i y hy h0=>by
   have hi:=(List.getElem?_eq_some_iff.1 hy).1
   have h1:=h i hi
   rw[Lb (nL hy),decide_eq_false h0,Bool.false_or,Bool.and_eq_true,Bool.not_eq_true']at h1
   exact h1
  refine⟨fun i y hy h0=>(hp i y hy h0).2,fun i j y hi hj h0=> ?_⟩
  rcases Nat.lt_trichotomy i j with hl|hl|hl
  ·
   have:=(hp j y hj h0).1
   rw[Hk.2 ⟨i,hl,hi⟩]at this;cases this
  ·
   exact hl
  ·
   have:=(hp i y hi h0).1
   rw[Hk.2 ⟨j,hl,hj⟩]at this;cases this
 ·
  rintro⟨h1,h2⟩ i hi
  have hy:=List.getElem?_eq_getElem hi
  rw[Lb (nL hy)]
  by_cases h0:a[i]=0
  ·
   rw[decide_eq_true h0];rfl
  ·
   rw[h1 i _ hy h0,Bool.and_true,Bool.or_eq_true]
   right
   cases hc:(a.take i).contains a[i]with
   |false=>rfl
   |true=>
    obtain⟨j,hj,e⟩:=Hk.1 hc
    have:=h2 i j _ hy e h0;omega
theorem Ad{c:CV}{i n:Int}(h:lS c i n=true):jJ c (n -1)=true∧(cr (bJ c (n -1))).2=0∧(cr (bJ c (n -1))).1.kind=1∧(cr (bJ c (n -1))).1.id=i:=by
 rw[lS,Bool.and_eq_true,BN]at h
 simp only[Bool.and_eq_true,decide_eq_true_eq]at h
 exact⟨h.1,h.2.1.1,h.2.1.2,h.2.2⟩
theorem ZW{c:CV}{i n:Int}{p:PV}(h:jJ c (n -1)=true)(h2:cr (bJ c (n -1))=(p,0))(hk:p.kind=1)(hi:p.id=i):lS c i n=true:=by
 rw[lS,h,h2,BN]
 simp[hk,hi]
theorem Pl.kd{c d:CV}{a L:List Int}(h:Pl c a)(k:Kd L c d)(hs: ∀n∈a,n∈L):Pl d a:=
 ⟨fun i y hy h0=>by
  have h1:=h.1 i y hy h0
  obtain⟨g1,g2⟩:=k.nm y (hs y (List.mem_of_getElem? hy)) h0 (Ad h1).1
  rw[lS,g1,g2]
  rw[lS,(Ad h1).1]at h1
  exact h1,h.2⟩
theorem Da{c d:CV}{a L:List Int}(h:Pl c a)(k:Kd L c d)(hs: ∀n∈a,n∈L):a.map (dY d)=a.map (dY c):=by
 refine List.map_congr_left fun y hy=> ?_
 by_cases h0:y=0
 ·
  rw[h0];rfl
 ·
  obtain⟨i,hi⟩:=List.getElem?_of_mem hy
  obtain⟨_,g2⟩:=k.nm y (hs y hy) h0 (Ad (h.1 i y hi h0)).1
  rw[dY,dY,iC,iC,g2]
theorem Pl.place{c:CV}{a:List Int}(h:Pl c a){n:Int}(hn:n∈a)(h0:n≠0):jJ c (n -1)=true:=by
 obtain⟨i,hi⟩:=List.getElem?_of_mem hn
 exact(Ad (h.1 i n hi h0)).1
structure eV(x:VV):Prop where
 bears:fB x.ae=true
 roots:(bN x.ae).2.2=0
 used:(bN x.ae).1%x.ae.pages<(aj x.ae ((bN x.ae).1/x.ae.pages)).used
 pl:Pl x.ae x.at_
 at_:(bN x.ae).2.1.at_=x.at_
 gen:(bN x.ae).2.1.gen=x.gen
 last:(bN x.ae).1/x.ae.pages=x.last
theorem xO{x:VV}:kx x=true↔eV x:=by
 rw[Tq,Bool.and_eq_true]
 constructor
 ·
  rintro⟨h1,h2⟩
  simp only[Bool.and_eq_true,decide_eq_true_eq]at h2
  obtain⟨⟨⟨g1,g2⟩,g3⟩,g4⟩:=h2
  rw[sj]at g1 g2 g3 g4
  by_cases k1:(bN x.ae).2.2≠0
  ·
   rw[if_pos k1]at g1;exact absurd g1 k1
  ·
   rw[if_neg k1]at g1 g2 g3 g4
   by_cases k2:ll x.ae=false
   ·
    rw[if_pos k2]at g1;cases g1
   ·
    rw[if_neg k2]at g2 g3 g4
    have Hl:ll x.ae=true:=by simpa using k2
    rw[ll,Bool.and_eq_true,decide_eq_true_eq]at Hl
    refine⟨h1,by simpa using k1,Hl.1,?_,g2.symm,g3.symm,g4.symm⟩
    rw[g2];exact NB.1 Hl.2
 ·
  intro h
  refine⟨h.bears,?_⟩
  have hl:ll x.ae=true:=by
   rw[ll,Bool.and_eq_true,decide_eq_true_eq]
   exact⟨h.used,by rw[h.at_];exact NB.2 h.pl⟩
  rw[sj,if_neg (fun g=>g h.roots),if_neg (by rw[hl];simp)]
  simp only[h.at_,h.gen,h.last,decide_true,Bool.and_self]
theorem ZX{L:List Int}{c d:CV}(k:Kp L c d):bN d=bN c:=by
 rw[bN,bN,(k.r0 0 (by decide)).1,(k.r0 1 (by decide)).1]
theorem ZY{L:List Int}{c d:CV}(k:Kd L c d)(h:fB c=true):fB d=true:=by
 obtain⟨h1,h2,h3,h4⟩:=fv.1 h
 exact fv.2 ⟨k.ok h1,by rw[k.bS.len];exact h2,by rw[k.bS.pages];exact h3,by rw[k.bS.size];exact h4⟩
theorem Ae{c:CV}(h:fB c=true):((aj c 0).pages.length:Int)=c.pages∧((aj c 1).pages.length:Int)=c.pages:=by
 obtain⟨h1,h2,h3,h4⟩:=fv.1 h
 exact⟨(dX.1 (qj h1 (by decide) (by omega))).1,(dX.1 (qj h1 (by decide) (by omega))).1⟩
theorem NC{c:CV}(h:fB c=true):0≤(bN c).1∧(bN c).1<2*c.pages:=by
 obtain⟨h1,h2⟩:=Ae h
 obtain⟨_,_,h3,_⟩:=fv.1 h
 have:=EY (l:=(aj c 0).pages++(aj c 1).pages) (by rw[List.length_append];omega)
 rw[List.length_append]at this
 rw[bN];omega
theorem eV.kp{x:VV}(h:eV x){d:CV}(k:Kp x.at_ x.ae d):eV {x with ae:=d}:=by
 have e:=ZX k
 have ep:=k.bS.pages
 have hr:=NC h.bears
 have hp:0<x.ae.pages:=by have:=(fv.1 h.bears).2.2.1;omega
 exact⟨ZY k.toKd h.bears,by show(bN d).2.2=0;rw[e];exact h.roots,by
  show(bN d).1%d.pages<(aj d ((bN d).1/d.pages)).used
  rw[e,ep,(k.r0 _ (Int.ediv_lt_of_lt_mul hp hr.2)).2];exact h.used,h.pl.kd k.toKd fun _ g=>g,by show(bN d).2.1.at_=_;rw[e];exact h.at_,by show(bN d).2.1.gen=_;rw[e];exact h.gen,by show(bN d).1/d.pages=_;rw[e,ep];exact h.last⟩
theorem ND{l:List Int}{n:Int}(h0:n≠0): ∀k,n∈l.take k→ ∃j,j<k∧j<l.length∧l.getD j 0=n∧lT l j=true
 |0,h=>by simp at h
 |k+1,h=>by
  by_cases hk:n∈l.take k
  ·
   obtain⟨j,h1,h2⟩:=ND h0 k hk
   exact⟨j,by omega,h2⟩
  ·
   rw[List.take_add_one,List.mem_append]at h
   rcases h with h|h
   ·
    exact absurd h hk
   ·
    have hx:l[k]? =some n:=by simpa[Option.mem_toList]using h
    refine⟨k,by omega,(List.getElem?_eq_some_iff.1 hx).1,nL hx,?_⟩
    rw[lT,nL hx,decide_eq_true h0,Bool.true_and,Bool.not_eq_true']
    cases hc:(l.take k).contains n with
    |false=>rfl
    |true=>exact absurd (List.contains_iff_mem.1 hc) hk
theorem NF{pages:Int}{l:List Int}{i:Nat}(h:ju pages l l.length i=0): ∀n∈l,n≠0→(n -1)/pages≠(i:Int)+2:=by
 intro n hn h0 hb
 obtain⟨j,h1,h2,h3,h4⟩:=ND h0 l.length (by rw[List.take_length];exact hn)
 rw[ju,List.length_eq_zero_iff]at h
 have hm:j∈(List.range l.length).filter fun j=>lT l j&&decide ((l.getD j 0 -1)/pages=(i:Int)+2):=List.mem_filter.2 ⟨List.mem_range.2 h2,by rw[h4,h3,decide_eq_true hb];rfl⟩
 rw[h]at hm;cases hm
theorem ZZ{c:CV}{fl:List Int}{i:Nat}{x:ax}(h:(av c fl)[i]? =some x)(hb:x.bad=false)(hl:x.live=0):jT fl c ((i:Int)+2):=by
 have hi:=(List.getElem?_eq_some_iff.1 h).1
 rw[kA]at hi
 rw[Fe hi]at h
 have e:=Option.some.inj h
 intro n hn h0
 refine NF (l:=fl) ?_ n hn h0
 rw[nc]at e
 split at e
 ·
  rw[←e]at hb;cases hb
 ·
  rw[←e]at hl
  simp only[rb]at hl
  omega
def pN(c:CV)(fl:List Int)(l:List ax):Prop:= ∀(i:Nat) (x:ax),l[i]? =some x→x.bad=false→x.live=0→jT fl c ((i:Int)+2)
theorem Db(c:CV)(fl:List Int):pN c fl (av c fl):=fun _ _ h hb hl=>ZZ h hb hl
theorem pN.set{c:CV}{fl:List Int}{l:List ax}(h:pN c fl l)(i:Nat):pN c fl (l.set i bj):=by
 intro j x hx hb hl
 rw[List.getElem?_set]at hx
 split at hx
 ·
  split at hx
  ·
   obtain rfl:=Option.some.inj hx;cases hb
  ·
   cases hx
 ·
  exact h j x hx hb hl
theorem Dc{c:CV}{fl:List Int}{l:List ax}(h:pN c fl l){R:ax→Bool}{p:Int}(hd:(eK (bR R l) p).2=true):jT fl c ((eK (bR R l) p).1+2)∧0≤(eK (bR R l) p).1:=by
 obtain⟨x,hx,h1,_,h3,h4,_⟩:=nf (fun x h=>(kB h).1) hd
 have:=h _ x hx h1 (kB h3).2.1
 refine⟨?_,h4⟩
 change 0≤(eK (bR R l) p).1 at h4
 change jT fl c ((((eK (bR R l) p).1.toNat:Nat):Int)+2)at this
 rwa [Int.toNat_of_nonneg h4]at this
theorem NG{c:CV}{fl:List Int}(hk:aT c=true)(h2:3≤c.blocks.length)(hi:dx (av c fl)≠0)(hb: ¬(jw c fl).2=true):(eK (bR fM (av c fl)) c.pages).2=true:=by
 have hd:=eF hk
 have dt:=kA c fl
 have hw:ky (bR fM (av c fl)) c.pages=true:=qg.2 ⟨by rw[tu];omega,by rw[tu];omega,by omega,by omega,fun x hx=>by
  obtain⟨i,hi⟩:=List.getElem?_of_mem hx
  obtain⟨y,hy,rfl⟩:=Ff hi
  have t:=rk hk (List.mem_of_getElem? hy)
  have oE:cI=1099511627776:=rfl
  unfold gJ
  split
  ·
   exact pq.2 (by simp only[bj];omega)
  ·
   rename_i hn
   have hl:y.live=0:=by
    cases hR:fM y with
    |true=>simpa[fM]using hR
    |false=>exact absurd (.inr hR) hn
   exact pq.2 ⟨by omega,by have:=t.zd;omega,t.wQ,t.KO,t.KP⟩⟩
 have pv:(jw c fl).2=false:=by simpa using hb
 have Fg:=re hw (show(fj _ _ _ _).2=false from pv)
 have wR:0<((av c fl).filter fun x=> !x.bad&&decide (x.live=0)).length:=by rw[dx]at hi;omega
 obtain⟨x,hx⟩:=List.exists_mem_of_length_pos wR
 obtain⟨ng,jL⟩:=List.mem_filter.1 hx
 simp only[Bool.and_eq_true,Bool.not_eq_true',decide_eq_true_eq]at jL
 have rl:gJ fM x=x:=by
  unfold gJ
  rw[if_neg]
  rintro(g|g)
  ·
   rw[jL.1]at g;cases g
  ·
   rw[show fM x=true by simp[fM,jL.2]]at g;cases g
 have ze:x∈bR fM (av c fl):=by
  rw[←rl];exact List.mem_map_of_mem ng
 have zf:=Fg x ze
 have t:=rk hk ng
 have lq:kW x=true:=by
  have: ¬x.used<c.pages:=fun h=>by
   rw[ln,jL.1,decide_eq_true h]at zf;cases zf
  simp only[kW,jL.1,Bool.not_false,Bool.true_and,Bool.and_eq_true,decide_eq_true_eq]
  omega
 cases hq:(eK (bR fM (av c fl)) c.pages).2 with
 |true=>rfl
 |false=>have:=re hw hq x ze;rw[lq]at this;cases this
theorem aaa{c:CV}{fl:List Int}{aE:Bool}(hk:aT c=true)(h2:3≤c.blocks.length):Kp fl c (bk c fl aE).1∧((bk c fl aE).2.2=7→(bk c fl aE).1.off=true):=by
 rw[bk]
 by_cases h1:(kX c fl).2=true
 ·
  rw[if_pos h1];exact⟨.cX _ _,fun h=>absurd (show(0:Int)=7 from h) (by decide)⟩
 ·
  rw[if_neg h1]
  by_cases h3:dx (av c fl)=0∨(dx (av c fl)=1∧aE=false)
  ·
   rw[if_pos h3];exact⟨.cX _ _,fun h=>absurd (show(5:Int)=7 from h) (by decide)⟩
  ·
   rw[if_neg h3]
   by_cases h4:(jw c fl).2=true
   ·
    rw[if_pos h4];exact⟨.cX _ _,fun h=>absurd (show(0:Int)=7 from h) (by decide)⟩
   ·
    rw[if_neg h4]
    obtain⟨d1,d2⟩:=Dc (Db c fl) (NG hk h2 (fun e=>h3 (.inl e)) h4)
    exact⟨vB (by show 2≤iL c fl+2;change 0≤iL c fl at d2;omega) d1,Ac⟩
theorem Dd{L:List Int}{c:CV}{b:Int}{p:List UInt8}(h2:2≤b)(h:bC c b p=0):jJ (bD c b p) (b*c.pages+(aj c b).used)=true∧bJ (bD c b p) (b*c.pages+(aj c b).used)=p∧
  0≤b*c.pages+(aj c b).used∧jJ c (b*c.pages+(aj c b).used)=false:=by
 obtain⟨h1,h3,h4,h5,e⟩:=nM h
 obtain⟨j1,j2,j3,j4,j5⟩:=iW.1 h1
 obtain⟨k1,k2,k3⟩:=gv.1 j1
 have hd:(b*c.pages+(aj c b).used)/c.pages=b:=by
  rw[Int.add_comm,Int.add_mul_ediv_right _ _ (by omega),Int.ediv_eq_zero_of_lt j2 j3,Int.zero_add]
 have hm:(b*c.pages+(aj c b).used)%c.pages=(aj c b).used:=by
  rw[Int.add_comm,Int.add_mul_emod_self_right,Int.emod_eq_of_lt j2 j3]
 have bU:=(dX.1 (oB j1)).1
 rw[e]
 refine⟨lj.2 ?_,?_,?_,?_⟩
 ·
  show 2≤(b*c.pages+(aj c b).used)/c.pages∧(b*c.pages+(aj c b).used)/c.pages<((c.blocks.set b.toNat _).length:Int)∧(b*c.pages+(aj c b).used)%c.pages<(aj _ ((b*c.pages+(aj c b).used)/c.pages)).used
  rw[hd,hm,gR,oD j1,List.length_set]
  exact⟨h2,k3,by simp only;omega⟩
 ·
  show(aj _ ((b*c.pages+(aj c b).used)/c.pages)).pages.getD ((b*c.pages+(aj c b).used)%c.pages).toNat []=p
  rw[hd,hm,gR,oD j1]
  simp only[List.getD]
  rw[List.getElem?_set_self (by omega),mZ,h5];rfl
 ·
  have:0≤b*c.pages:=Int.mul_nonneg (by omega) (by omega)
  omega
 ·
  cases hq:jJ c (b*c.pages+(aj c b).used)with
  |false=>rfl
  |true=>
   obtain⟨p1,p2,p3⟩:=lj.1 hq
   rw[hd,hm]at p3;omega
structure Ag(fl:List Int)(c d:CV)(n:Int)(p:List UInt8):Prop where
 pos:1≤n
 ok:jJ d (n -1)=true
 pg:bJ d (n -1)=p
 new: ∀m∈fl,m≠0→jJ c (m -1)=true→m≠n
theorem Hm: ∀(n:Nat) {c:CV} {fl:List Int} {aE:Bool} {b:List UInt8},aT c=true→3≤c.blocks.length→(cI -c.ops).toNat<n→
  Kp fl c (ia n c fl aE b).1∧((ia n c fl aE b).2.2=0→Ag fl c (ia n c fl aE b).1 (ia n c fl aE b).2.1 b)∧((ia n c fl aE b).2.2=7→(ia n c fl aE b).1.off=true)
 |0,c,fl,aE,b,_,_,hn=>by omega
 |n+1,c,fl,aE,b,hk,h2,hn=>by
  obtain⟨f1,f2,f3,f4,f5⟩:=Fh (fl:=fl) (aE:=aE) hk h2
  obtain⟨k1,k2⟩:=aaa (fl:=fl) (aE:=aE) hk h2
  rw[ia]
  by_cases h0:(bk c fl aE).2.2=0
  ·
   rw[if_pos h0]
   obtain⟨g1,g2,g3⟩:=f4 h0
   have kp:=k1.trans (C8 (c:=(bk c fl aE).1) (p:=b) (L:=fl) g1)
   by_cases h1:bC (bk c fl aE).1 (bk c fl aE).2.1 b=0
   ·
    rw[if_pos h1]
    refine⟨kp,fun _=> ?_,fun h=>absurd (show(0:Int)=7 from h) (by decide)⟩
    obtain⟨q1,q2,q3,q4⟩:=Dd (L:=fl) g1 h1
    rw[f2.pages]at q1 q2 q3 q4
    have e:(bk c fl aE).2.1*c.pages+(aj (bk c fl aE).1 (bk c fl aE).2.1).used+1 -1=(bk c fl aE).2.1*c.pages+(aj (bk c fl aE).1 (bk c fl aE).2.1).used:=by omega
    refine⟨by simp only;omega,by simp only;rw[e];exact q1,by simp only;rw[e];exact q2,fun m hm h0 hp he=> ?_⟩
    have:=(k1.nm m hm h0 hp).1
    simp only at he
    rw[he,e,q4]at this;cases this
   ·
    rw[if_neg h1]
    by_cases h9:bC (bk c fl aE).1 (bk c fl aE).2.1 b≠9
    ·
     rw[if_pos h9]
     exact⟨kp,fun h=>absurd h h1,C9⟩
    ·
     rw[if_neg h9]
     have ho:=rf g3 (p:=b) (.inl (by simpa using h9))
     have bP:=kz f1 (bk c fl aE).2.1 b
     have hl:=f2.trans (gU (bk c fl aE).1 (bk c fl aE).2.1 b)
     have hle:=qm bP
     obtain⟨t1,t2,t3⟩:=Hm n (fl:=fl) (aE:=aE) (b:=b) bP (by rw[hl.len];exact h2) (by omega)
     refine⟨kp.trans t1,fun h=> ?_,t3⟩
     have g:=t2 h
     exact⟨g.pos,g.ok,g.pg,fun m hm h0 hp=>g.new m hm h0 (kp.nm m hm h0 hp).1⟩
  ·
   rw[if_neg h0]
   by_cases h9:(bk c fl aE).2.2≠9
   ·
    rw[if_pos h9]
    exact⟨k1,fun h=>absurd h h0,k2⟩
   ·
    rw[if_neg h9]
    have ho:=f5 (by simpa using h9)
    have hle:=qm f1
    obtain⟨t1,t2,t3⟩:=Hm n (fl:=fl) (aE:=aE) (b:=b) f1 (by rw[f2.len];exact h2) (by omega)
    refine⟨k1.trans t1,fun h=> ?_,t3⟩
    have g:=t2 h
    exact⟨g.pos,g.ok,g.pg,fun m hm h0 hp=>g.new m hm h0 (k1.nm m hm h0 hp).1⟩
theorem NH{c:CV}{fl:List Int}{aE:Bool}{p:PV}(hk:aT c=true)(h2:3≤c.blocks.length):
  Kp fl c (cT c fl aE p).1∧((cT c fl aE p).2.2=0→kv p c.size=true∧Ag fl c (cT c fl aE p).1 (cT c fl aE p).2.1 (c8 p c.size).1)∧((cT c fl aE p).2.2=7→(cT c fl aE p).1.off=true):=by
 rw[cT];split
 ·
  rename_i h
  refine⟨.cX _ _,fun g=>absurd g h,fun g=> ?_⟩
  rcases wS p c.size with e|e
  ·
   exact absurd e h
  ·
   simp only at g;rw[e]at g;cases g
 ·
  rename_i h
  obtain⟨t1,t2,t3⟩:=Hm ((cI -c.ops).toNat+1) (fl:=fl) (aE:=aE) (b:=(c8 p c.size).1) hk h2 (by omega)
  exact⟨t1,fun g=>⟨Ns (by simpa using h),t2 g⟩,t3⟩
open Go.aC
def rJ(bs:List (List UInt8))(l:List (Int×List UInt8)):List (List UInt8):=l.foldl (fun b x=>b.set x.1.toNat x.2) bs
theorem Hn{α β:Type}{f:α→β}{l:List α}{i:Nat}{x:α}:(l.set i x).map f=(l.map f).set i (f x):=by rw[List.map_set]
theorem Pl.zero{c:CV}{a:List Int}(h:Pl c a)(i:Nat):Pl c (a.set i 0):=by
 have hs: ∀(j:Nat) (y:Int),(a.set i 0)[j]? =some y→y≠0→a[j]? =some y:=fun j y hy h0=>by
  rw[List.getElem?_set]at hy
  split at hy
  ·
   split at hy
   ·
    exact absurd (Option.some.inj hy).symm h0
   ·
    cases hy
  ·
   exact hy
 exact⟨fun j y hy h0=>h.1 j y (hs j y hy h0) h0,fun j k y hj hk h0=>h.2 j k y (hs j y hj h0) (hs k y hk h0) h0⟩
theorem Pl.put{c d:CV}{a fl:List Int}{i:Nat}{n:Int}{p:PV}{pg:List UInt8}(h:Pl c a)(k:Kd fl c d)(hs: ∀m∈a,m∈fl)(g:Ag fl c d n pg)(hp:cr pg=(p,0))(hk:p.kind=1)(hi:p.id=(i:Int)):Pl d (a.set i n):=by
 have hd:=h.kd k hs
 have hn: ∀m∈a,m≠n:=fun m hm e=>by
  have h0:m≠0:=by have:=g.pos;omega
  exact g.new m (hs m hm) h0 (h.place hm h0) e
 have Ho: ∀(j:Nat) (y:Int),(a.set i n)[j]? =some y→(j=i∧y=n)∨(a[j]? =some y∧y≠n):=fun j y hy=>by
  rw[List.getElem?_set]at hy
  split at hy
  ·
   rename_i e
   split at hy
   ·
    exact .inl ⟨e.symm,(Option.some.inj hy).symm⟩
   ·
    cases hy
  ·
   exact .inr ⟨hy,hn y (List.mem_of_getElem? hy)⟩
 refine⟨fun j y hy h0=> ?_,fun j l y hj hl h0=> ?_⟩
 ·
  rcases Ho j y hy with⟨rfl,rfl⟩|⟨e,_⟩
  ·
   exact ZW g.ok (by rw[g.pg];exact hp) hk hi
  ·
   exact hd.1 j y e h0
 ·
  rcases Ho j y hj with⟨e1,e2⟩|⟨e1,e2⟩<;>rcases Ho l y hl with⟨e3,e4⟩|⟨e3,e4⟩
  ·
   rw[e1,e3]
  ·
   exact absurd e2 e4
  ·
   exact absurd e4 e2
  ·
   exact h.2 j l y e1 e3 h0
theorem NI{fl:List Int}{c d:CV}{n:Int}{p:PV}{pg:List UInt8}(g:Ag fl c d n pg)(hp:cr pg=(p,0)):dY d n=p.body:=by
 rw[dY,if_neg (by have:=g.pos;omega),iC,g.pg,hp,if_pos rfl]
theorem De{v:VV}{aE:Bool}: ∀(l:List (Int×List UInt8)) {c:CV} {a:List Int},aT c=true→3≤c.blocks.length→Pl c v.at_→Pl c a→(∀x∈l,0≤x.1)→
  Kp v.at_ c (fV v aE l c a).1∧((fV v aE l c a).2.2=0→Pl (fV v aE l c a).1 (fV v aE l c a).2.1∧(fV v aE l c a).2.1.map (dY (fV v aE l c a).1)=rJ (a.map (dY c)) l∧(fV v aE l c a).2.1.length=a.length)∧((fV v aE l c a).2.2=7→(fV v aE l c a).1.off=true)
 |[],c,a,_,_,_,ha,_=>⟨.cX _ _,fun _=>⟨ha,rfl,rfl⟩,fun h=>absurd (show(0:Int)=7 from h) (by decide)⟩
 |x::r,c,a,hk,h2,hv,ha,ib=>by
  have NJ: ∀y∈r,0≤y.1:=fun y hy=>ib y (List.mem_cons_of_mem _ hy)
  have Jb:=ib x List.mem_cons_self
  rw[fV]
  by_cases h0:x.2.length=0
  ·
   rw[if_pos h0]
   obtain⟨t1,t2,t3⟩:=De (v:=v) (aE:=aE) r hk h2 hv (ha.zero x.1.toNat) NJ
   refine⟨t1,fun h=> ?_,t3⟩
   obtain⟨g1,g2,g3⟩:=t2 h
   refine⟨g1,?_,by rw[g3,List.length_set]⟩
   rw[g2,Hn,show dY c 0=x.2 from(List.length_eq_zero_iff.1 h0).symm];rfl
  ·
   rw[if_neg h0]
   obtain⟨k1,k2,k3⟩:=NH (fl:=v.at_++a) (aE:=aE) (p:=gW v x) hk h2
   by_cases h1:(cT c (v.at_++a) aE (gW v x)).2.2≠0
   ·
    rw[if_pos h1]
    exact⟨k1.sub fun n hn=>List.mem_append_left _ hn,fun h=>absurd h h1,k3⟩
   ·
    rw[if_neg h1]
    obtain⟨m1,m2⟩:=k2 (by simpa using h1)
    have hb:=Hg m1
    have bU:=ha.put k1.toKd (fun n hn=>List.mem_append_right _ hn) m2 hb rfl (i:=x.1.toNat) (by show x.1=_;omega)
    have xp:=hv.kd k1.toKd fun n hn=>List.mem_append_left _ hn
    obtain⟨t1,t2,t3⟩:=De (v:=v) (aE:=aE) r (k1.ok hk) (by rw[k1.bS.len];exact h2) xp bU NJ
    refine⟨(k1.sub fun n hn=>List.mem_append_left _ hn).trans t1,fun h=> ?_,t3⟩
    obtain⟨g1,g2,g3⟩:=t2 h
    refine⟨g1,?_,by rw[g3,List.length_set]⟩
    rw[g2,Hn,NI m2 hb,Da ha k1.toKd fun n hn=>List.mem_append_right _ hn];rfl
theorem aab{c:CV}{a0 a:List Int}{src to:Int}(h:(cf c a0 a src to).2=true)(hs:2≤src)(ht:0≤to→to≠src):(cf c a0 a src to).1≠src:=by
 rw[cf]at h⊢
 by_cases h1:to<0
 ·
  rw[if_pos h1]at h⊢
  by_cases h2:(eE ((av c (a0++a)).set (src -2).toNat bj) c.pages).2=true
  ·
   rw[if_pos h2]
   obtain⟨f1,f2,f3,f4⟩:=wM h2
   intro e
   simp only at e
   have e2:(eE ((av c (a0++a)).set (src -2).toNat bj) c.pages).1.toNat=(src -2).toNat:=by omega
   change ln c.pages (((av c (a0++a)).set (src -2).toNat bj).getD (eE ((av c (a0++a)).set (src -2).toNat bj) c.pages).1.toNat dH)=true at f4
   change(eE ((av c (a0++a)).set (src -2).toNat bj) c.pages).1<_ at f3
   change 0≤(eE ((av c (a0++a)).set (src -2).toNat bj) c.pages).1 at f2
   rw[List.length_set]at f3
   rw[e2]at f4
   simp only[List.getD]at f4
   rw[List.getElem?_set_self (by omega)]at f4
   cases f4
  ·
   rw[if_neg h2]at h;cases h
 ·
  rw[if_neg h1]
  exact ht (by omega)
theorem Df{v:VV}{src to:Int}(lH:2≤src)(nq:0≤to→to≠src)(BZ:1≤v.ae.pages): ∀(l:List Int) (id:Nat) {c:CV} {a:List Int},aT c=true→Pl v.ae v.at_→Kp v.at_ v.ae c→Pl c a→a.map (dY c)=v.at_.map (dY v.ae)→
  (0≤to→2≤to∧to<c.blocks.length∧(aj c to).bad=false)→v.at_.drop id=l→(∀j,id≤j→a[j]? =v.at_[j]?)→(∀j n,j<id→a[j]? =some n→n≠0→(n -1)/v.ae.pages≠src)→a.length=v.at_.length→
  Kp v.at_ v.ae (bV v src to l id c a).c∧((bV v src to l id c a).e=none→Pl (bV v src to l id c a).c (bV v src to l id c a).a∧(bV v src to l id c a).a.map (dY (bV v src to l id c a).c)=v.at_.map (dY v.ae)∧(bV v src to l id c a).a.length=v.at_.length∧
   jT (bV v src to l id c a).a v.ae src)∧((bV v src to l id c a).e=some 7→(bV v src to l id c a).c.off=true)∧(bV v src to l id c a).e≠some 9
 |[],id,c,a,hk,hv,mi,ha,hb,ht,hl,ic,dz,dD=>by
  refine⟨mi,fun _=>⟨ha,hb,dD,fun n hn h0=> ?_⟩,fun h=>by simp[bV]at h,by simp[bV]⟩
  obtain⟨j,hj⟩:=List.getElem?_of_mem hn
  have hlen:v.at_.length≤id:=List.drop_eq_nil_iff.1 hl
  have:=(List.getElem?_eq_some_iff.1 hj).1
  exact dz j n (by simp only[bV]at this;omega) hj h0
 |n::r,id,c,a,hk,hv,mi,ha,hb,ht,hl,ic,dz,dD=>by
  have hn:v.at_[id]? =some n:=by
   have:=congrArg (fun l:List Int=>l[0]?) hl
   simpa using this
  have hr:v.at_.drop (id+1)=r:=by
   rw[←List.drop_drop,hl];rfl
  have hp:=mi.bS.pages
  rw[bV]
  by_cases h1:n=0∨(n -1)/v.ae.pages≠src
  ·
   rw[if_pos h1]
   refine Df lH nq BZ r (id+1) hk hv mi ha hb ht hr (fun j hj=>ic j (by omega)) (fun j m hj hm h0=> ?_) dD
   by_cases e:j=id
   ·
    rw[e,ic id (Nat.le_refl _),hn]at hm
    obtain rfl:=Option.some.inj hm
    exact h1.resolve_left h0
   ·
    exact dz j m (by omega) hm h0
  ·
   rw[if_neg h1]
   have h0:n≠0:=fun e=>h1 (.inl e)
   by_cases h2:(cf c v.at_ a src to).2=false
   ·
    rw[if_pos h2];exact⟨mi,fun h=>by simp at h,fun h=>by simp at h,by simp⟩
   ·
    rw[if_neg h2]
    have NK:(cf c v.at_ a src to).2=true:=by simpa using h2
    obtain⟨m1,m2,m3⟩:=K0 NK ht
    have mne:=aab NK lH nq
    generalize cf c v.at_ a src to=B at*
    by_cases h3:(dJ c ((v.gen:Int)+1) id n).2≠0
    ·
     rw[if_pos h3]
     have wT:(dJ c ((v.gen:Int)+1) id n).2=1:=(wS _ _).resolve_left h3
     exact⟨mi,fun h=>by simp at h,fun h=>absurd (wT.symm.trans (Option.some.inj h)) (by decide),fun h=>absurd (wT.symm.trans (Option.some.inj h)) (by decide)⟩
    ·
     rw[if_neg h3]
     have xP:=Ns (p:=⟨1,id,((v.gen:Int)+1).toNat,iC c n⟩) (n:=c.size) (by simpa[dJ]using h3)
     have Ah:=Hg xP
     have Ai:=C8 (L:=v.at_++a) (c:=c) (p:=(dJ c ((v.gen:Int)+1) id n).1) m1
     by_cases h4:bC c B.1 (dJ c ((v.gen:Int)+1) id n).1≠0
     ·
      rw[if_pos h4]
      refine⟨mi.trans (Ai.sub fun n hn=>List.mem_append_left _ hn),fun h=>by simp at h,fun h=> ?_,fun h=> ?_⟩
      ·
       have h:=Option.some.inj h
       rw[iZ]at h
       split at h
       ·
        cases h
       ·
        exact C9 h
      ·
       have h:=Option.some.inj h
       rw[iZ]at h
       split at h
       ·
        cases h
       ·
        rename_i h9;exact h9 h
     ·
      rw[if_neg h4]
      have rn:bC c B.1 (dJ c ((v.gen:Int)+1) id n).1=0:=by simpa using h4
      obtain⟨q1,q2,q3,q4⟩:=Dd (L:=v.at_++a) m1 rn
      rw[hp]at q1 q2 q3 q4
      have e1:B.1*v.ae.pages+(aj c B.1).used+1 -1=B.1*v.ae.pages+(aj c B.1).used:=by omega
      have xF:Ag (v.at_++a) c (bD c B.1 (dJ c ((v.gen:Int)+1) id n).1) (B.1*v.ae.pages+(aj c B.1).used+1) (dJ c ((v.gen:Int)+1) id n).1:=
       ⟨by omega,by rw[e1];exact q1,by rw[e1];exact q2,fun m hm _ ub he=>by rw[he,e1,q4]at ub;cases ub⟩
      have bU:=ha.put Ai.toKd (fun n hn=>List.mem_append_right _ hn) xF Ah rfl (i:=id) rfl
      have rF:=NI xF Ah
      have fw:=iW.1 (nM rn).1
      have hq:(B.1*v.ae.pages+(aj c B.1).used+1 -1)/v.ae.pages=B.1:=by
       rw[e1,Int.add_comm,Int.add_mul_ediv_right _ _ (by omega),Int.ediv_eq_zero_of_lt fw.2.1 (by rw[←hp];exact fw.2.2.1),Int.zero_add]
      have MJ:dY c n=iC c n:=by
       rw[dY]
       split
       ·
        rename_i aac
        have MQ:=hv.place (List.mem_of_getElem? hn) h0
        have ajg:=(lj.1 MQ).1
        have:(n -1)/v.ae.pages<0:=Int.ediv_neg_of_neg_of_pos aac (by omega)
        omega
       ·
        rfl
      refine Df lH nq BZ r (id+1) (Ai.ok hk) hv (mi.trans (Ai.sub fun n hn=>List.mem_append_left _ hn)) bU ?_ (fun h=> ?_) hr (fun j hj=> ?_) (fun j m hj hm mD=> ?_) (by rw[List.length_set,dD])
      ·
       rw[Hn,rF,Da ha Ai.toKd fun n hn=>List.mem_append_right _ hn,hb]
       refine tl ?_
       have e3:=congrArg (fun l:List (List UInt8)=>l[id]?) hb
       simp only[List.getElem?_map]at e3
       rw[ic id (Nat.le_refl _),hn]at e3
       rw[List.getElem?_map,hn]
       simp only[Option.map_some]at e3⊢
       rw[←e3,MJ]
      ·
       have:=ht h
       rw[(gU c _ _).len,Fp rn]
       exact this
      ·
       rw[List.getElem?_set_ne (by omega)];exact ic j (by omega)
      ·
       rw[List.getElem?_set]at hm
       split at hm
       ·
        split at hm
        ·
         obtain rfl:=Option.some.inj hm
         rw[hq];exact mne
        ·
         cases hm
       ·
        exact dz j m (by omega) hm mD
open Go.aC
def gZ(c:CV):Prop:= ∀f∈c.aR,f.mask=0∨f.mask=255
theorem gZ.kd{L:List Int}{c d:CV}(h:gZ c)(k:Kd L c d):gZ d:=by unfold gZ;rw[k.mJ];exact h
theorem gZ.Aj{c:CV}(h:gZ c)(hs:(bn c).2=true):(bn c).1.mask=0∨(bn c).1.mask=255:=by
 rw[bn]at hs⊢
 cases hf:c.aR.find? fun f=>decide (f.op=c.ops)with
 |none=>rw[hf]at hs;cases hs
 |some x=>exact h x (List.mem_of_find?_eq_some hf)
theorem NL(p:List UInt8):cQ 0 p=p:=by
 rw[cQ]
 conv=>rhs;rw[←List.map_id p]
 exact List.map_congr_left fun x _=>by simp
theorem NM(p:List UInt8):iX (cQ 255 p)=true:=by
 refine y0.2 fun x hx=> ?_
 obtain⟨y,_,rfl⟩:=List.mem_map.1 hx
 apply UInt8.eq_of_toBitVec_eq
 show y.toBitVec|||255#8=255#8
 exact BitVec.or_allOnes
theorem Hp{p:List UInt8}(h:iX p=true):(bB p).2≠0:=by
 rw[bB]
 by_cases h1:lR p.length=false
 ·
  rw[if_pos (by rw[cr,if_pos h1];decide)];rw[cr,if_pos h1];decide
 ·
  have e:cr p=(jr,0):=by rw[cr,if_neg h1,if_pos h]
  rw[e,if_neg (by decide),if_pos (show(jr,(0:Int)).1.kind=0 from rfl)];decide
theorem aad(n:Int):iX (gw n)=true:=y0.2 fun _ hx=>List.eq_of_mem_replicate hx
theorem rK{c:CV}(hb:fB c=true){k:Nat}(hk:(k:Int)<2*c.pages):((aj c 0).pages++(aj c 1).pages).getD k []=bJ c k:=by
 obtain⟨l0,l1⟩:=Ae hb
 have hp:2≤c.pages:=(fv.1 hb).2.2.1
 rw[bJ]
 by_cases h:(k:Int)<c.pages
 ·
  rw[Int.ediv_eq_zero_of_lt (by omega) h,Int.emod_eq_of_lt (by omega) h,Int.toNat_natCast]
  simp only[List.getD]
  rw[List.getElem?_append_left (by omega)]
 ·
  have e1:(k:Int)/c.pages=1:=by
   have:(k:Int)=(k -c.pages)+1*c.pages:=by omega
   rw[this,Int.add_mul_ediv_right _ _ (by omega),Int.ediv_eq_zero_of_lt (by omega) (by omega)];rfl
  have e2:(k:Int)%c.pages=k -c.pages:=by
   have:(k:Int)=(k -c.pages)+1*c.pages:=by omega
   rw[this,Int.add_mul_emod_self_right,Int.emod_eq_of_lt (by omega) (by omega)];omega
  rw[e1,e2]
  simp only[List.getD]
  rw[List.getElem?_append_right (by omega)]
  congr 2
  omega
theorem NN{c:CV}(hb:fB c=true){i:Int}(h0:0≤i)(h1:i<2*c.pages)(hi:(bB (bJ c i)).2=0)(hG: ∀k,0≤k→k<2*c.pages→(bB (bJ c k)).2=0→ ¬((bB (bJ c i)).1.gen<(bB (bJ c k)).1.gen∨((bB (bJ c k)).1.gen=(bB (bJ c i)).1.gen∧i<k))):
  bN c=(i,(bB (bJ c i)).1,0):=by
 obtain⟨l0,l1⟩:=Ae hb
 obtain⟨n,rfl⟩: ∃n:Nat,i=n:=⟨i.toNat,by omega⟩
 have hl:((aj c 0).pages++(aj c 1).pages).length=(aj c 0).pages.length+(aj c 1).pages.length:=List.length_append
 have hn:n<((aj c 0).pages++(aj c 1).pages).length:=by omega
 have:=La hn (Ca.2 ⟨by rw[rK hb h1];exact hi,fun k hk hv=>by
  rw[rK hb h1,rK hb (by omega)]
  rw[rK hb (by omega)]at hv
  have:=hG k (by omega) (by omega) hv
  omega⟩)
 rw[bN,this,rK hb h1]
theorem NO{c:CV}(hb:fB c=true)(h:(bN c).2.2=0):bB (bJ c (bN c).1)=((bN c).2.1,0)∧ ∀k,0≤k→k<2*c.pages→(bB (bJ c k)).2=0→ ¬((bN c).2.1.gen<(bB (bJ c k)).1.gen∨((bB (bJ c k)).1.gen=(bN c).2.1.gen∧(bN c).1<k)):=by
 obtain⟨l0,l1⟩:=Ae hb
 have hl:((aj c 0).pages++(aj c 1).pages).length=(aj c 0).pages.length+(aj c 1).pages.length:=List.length_append
 by_cases hex: ∃i,i<((aj c 0).pages++(aj c 1).pages).length∧u6 ((aj c 0).pages++(aj c 1).pages) i=true
 ·
  obtain⟨i,hi,NP⟩:=hex
  have e:=La hi NP
  obtain⟨g1,g2⟩:=Ca.1 NP
  rw[rK hb (by omega)]at e g1
  rw[bN,e]
  refine⟨by rw[←g1],fun k k0 k1 hv=> ?_⟩
  obtain⟨n,rfl⟩: ∃n:Nat,k=n:=⟨k.toNat,by omega⟩
  have:=g2 n (by omega) (by rw[rK hb k1];exact hv)
  rw[rK hb k1,rK hb (by omega)]at this
  simp only;omega
 ·
  have:=Tm (l:=(aj c 0).pages++(aj c 1).pages) fun i hi=>by
   cases hq:u6 ((aj c 0).pages++(aj c 1).pages) i with
   |false=>rfl
   |true=>exact absurd ⟨i,hi,hq⟩ hex
  rw[bN,this]at h
  simp only at h
  split at h<;>cases h
structure Wv(g:Nat)(at_:List Int)(last:Int)(a:List Int)(c:CV):Prop where
 bears:fB c=true
 xk: ∃i:Int,0≤i∧i<2*c.pages∧bB (bJ c i)=(⟨g,at_⟩,0)∧i/c.pages=last∧i%c.pages<(aj c last).used∧
  ∀k,0≤k→k<2*c.pages→(bB (bJ c k)).2=0→(bB (bJ c k)).1.gen<g∨((bB (bJ c k)).1.gen=g∧k≤i)∨(bB (bJ c k)=(⟨g+1,a⟩,0)∧k%c.pages<(aj c (k/c.pages)).used)
theorem eV.wv{x:VV}(h:eV x)(a:List Int):Wv x.gen x.at_ x.last a x.ae:=by
 obtain⟨h1,h2⟩:=NO h.bears h.roots
 have hr:=NC h.bears
 refine⟨h.bears,(bN x.ae).1,hr.1,hr.2,?_,h.last,by rw[←h.last];exact h.used,fun k k0 k1 hv=> ?_⟩
 ·
  rw[h1,←h.at_,←h.gen]
 ·
  have:=h2 k k0 k1 hv
  rw[h.gen]at this
  omega
theorem Wv.step{g:Nat}{at_ a:List Int}{last:Int}{c d:CV}(h:Wv g at_ last a c)(hb:fB d=true)(hP:d.pages=c.pages)
  (hl: ∀i,0≤i→i/c.pages=last→i%c.pages<(aj c last).used→bJ d i=bJ c i∧i%c.pages<(aj d last).used)
  (hk: ∀k,0≤k→k<2*c.pages→(bB (bJ d k)).2=0→(bJ d k=bJ c k∧(k%c.pages<(aj c (k/c.pages)).used→k%c.pages<(aj d (k/c.pages)).used))∨(bB (bJ d k)=(⟨g+1,a⟩,0)∧k%c.pages<(aj d (k/c.pages)).used)):Wv g at_ last a d:=by
 obtain⟨i,i0,i1,i2,i3,i4,i5⟩:=h.xk
 obtain⟨e1,e2⟩:=hl i i0 i3 i4
 refine⟨hb,i,i0,by rw[hP];exact i1,by rw[e1];exact i2,by rw[hP];exact i3,by rw[hP];exact e2,fun k k0 k1 hv=> ?_⟩
 rw[hP]at k1⊢
 rcases hk k k0 k1 hv with⟨q1,q2⟩|q
 ·
  rw[q1]at hv⊢
  rcases i5 k k0 k1 hv with r|r|r
  ·
   exact .inl r
  ·
   exact .inr (.inl r)
  ·
   exact .inr (.inr ⟨r.1,q2 r.2⟩)
 ·
  exact .inr (.inr q)
theorem Wv.NQ{g:Nat}{at_ a:List Int}{last:Int}{c:CV}(h:Wv g at_ last a c)(hp:Pl c at_)(je: ∀k,0≤k→k<2*c.pages→bB (bJ c k)≠(⟨g+1,a⟩,0)):eV ⟨c,at_,g,last⟩:=by
 obtain⟨i,i0,i1,i2,i3,i4,i5⟩:=h.xk
 have e:=NN h.bears i0 i1 (by rw[i2]) (fun k k0 k1 hv=>by
  rw[i2]
  rcases i5 k k0 k1 hv with r|r|r
  ·
   simp only;omega
  ·
   simp only;omega
  ·
   exact absurd r.1 (je k k0 k1))
 rw[i2]at e
 exact⟨h.bears,by show(bN c).2.2=0;rw[e],by show(bN c).1%c.pages<(aj c ((bN c).1/c.pages)).used;rw[e];simp only;rw[i3];exact i4,hp,by show(bN c).2.1.at_=at_;rw[e],by show(bN c).2.1.gen=g;rw[e],by show(bN c).1/c.pages=last;rw[e];exact i3⟩
theorem NR{P:Int→Prop}{m:Int}: ∀(n:Nat),(∃k,0≤k∧k<m∧P k∧m -k≤n)→ ∃i,0≤i∧i<m∧P i∧ ∀k,k<m→P k→k≤i
 |0,⟨k,_,h1,_,h3⟩=>by omega
 |n+1,⟨k,h0,h1,h2,h3⟩=>by
  by_cases h: ∃j,0≤j∧j<m∧P j∧m -j≤n
  ·
   exact NR n h
  ·
   refine⟨k,h0,h1,h2,fun j hj hP=> ?_⟩
   apply Classical.byContradiction
   intro bp
   exact h ⟨j,by omega,hj,hP,by omega⟩
theorem Wv.NT{g:Nat}{at_ a:List Int}{last:Int}{c:CV}(h:Wv g at_ last a c)(hp:Pl c a){k0:Int}(q0:0≤k0)(q1:k0<2*c.pages)(q2:bB (bJ c k0)=(⟨g+1,a⟩,0)):
  ∃i,eV ⟨c,a,g+1,i/c.pages⟩∧0≤i∧i<2*c.pages∧bB (bJ c i)=(⟨g+1,a⟩,0)∧ ∀k,k<2*c.pages→bB (bJ c k)=(⟨g+1,a⟩,0)→k≤i:=by
 obtain⟨i,i0,i1,i2,i3⟩:=NR (P:=fun k=>bB (bJ c k)=(⟨g+1,a⟩,0)) (m:=2*c.pages) (2*c.pages -k0).toNat ⟨k0,q0,q1,q2,by omega⟩
 obtain⟨j,j0,j1,j2,j3,j4,j5⟩:=h.xk
 have e:=NN h.bears i0 i1 (by rw[i2]) (fun k k0 k1 hv=>by
  rw[i2]
  rcases j5 k k0 k1 hv with r|r|r
  ·
   simp only;omega
  ·
   simp only;omega
  ·
   have:=i3 k k1 r.1
   rw[r.1];simp only;omega)
 rw[i2]at e
 have hu:i%c.pages<(aj c (i/c.pages)).used:=by
  rcases j5 i i0 i1 (by rw[i2])with r|r|r
  ·
   rw[i2]at r;simp only at r;omega
  ·
   rw[i2]at r;simp only at r;omega
  ·
   exact r.2
 exact⟨i,⟨h.bears,by show(bN c).2.2=0;rw[e],by show(bN c).1%c.pages<(aj c ((bN c).1/c.pages)).used;rw[e];exact hu,hp,by show(bN c).2.1.at_=a;rw[e],by show(bN c).2.1.gen=g+1;rw[e],by show(bN c).1/c.pages=_;rw[e]⟩,i0,i1,i2,i3⟩
theorem Wv.some{g:Nat}{at_ a:List Int}{last:Int}{c:CV}(h:Wv g at_ last a c)(h1:Pl c at_)(h2:Pl c a): ∃u,eV u∧u.ae=c∧(u=⟨c,at_,g,last⟩∨(u.at_=a∧u.gen=g+1)):=by
 by_cases hex: ∃k,0≤k∧k<2*c.pages∧bB (bJ c k)=(⟨g+1,a⟩,0)
 ·
  obtain⟨k,k0,k1,k2⟩:=hex
  obtain⟨i,hi,_⟩:=h.NT h2 k0 k1 k2
  exact⟨_,hi,rfl, .inr ⟨rfl,rfl⟩⟩
 ·
  exact⟨_,h.NQ h1 fun k k0 k1 e=>hex ⟨k,k0,k1,e⟩,rfl, .inl rfl⟩
theorem sK{c:CV}{b e k:Int}:(aj (iE c b e) k).pages=(aj c k).pages∧(aj (iE c b e) k).used=(aj c k).used:=by
 rw[iE];split
 ·
  exact Nu
 ·
  exact⟨rfl,rfl⟩
theorem Dg{c:CV}{b e k:Int}:bJ (iE c b e) k=bJ c k:=by
 rw[bJ,bJ,(BP c b e).pages,sK.1]
theorem NU{c:CV}{b k:Int}(bU:gZ c)(hk:0≤k)(hp:1≤c.pages)(rH:k/c.pages=b)(hv:(bB (bJ (da c b) k)).2=0):bJ (da c b) k=bJ c k∧(k%c.pages<(aj c b).used→k%c.pages<(aj (da c b) b).used):=by
 rw[da,Dg]at hv⊢
 rw[sK.2]
 by_cases h:m0 c b=true∧c.off=false∧(aj c b).bad=false
 ·
  have hh:=(nJ.1 h.1).1
  have e:fA c b=jZ c b:=if_pos h
  have eb:aj (jZ c b) b={aj c b with used:=if(bn c).2=true then c.pages else 0,aS:=(aj c b).aS+1,pages:=qc c (aj c b).pages}:=oD hh
  have mD:0≤k%c.pages:=Int.emod_nonneg _ (by omega)
  have nR:k%c.pages<c.pages:=Int.emod_lt_of_pos _ (by omega)
  have zx:=(dX.1 (oB hh)).1
  have Ak:bJ (jZ c b) k=(qc c (aj c b).pages).getD (k%c.pages).toNat []:=by
   show(aj (jZ c b) (k/c.pages)).pages.getD _ []=_
   rw[rH,eb];rfl
  obtain⟨x,hx⟩: ∃x,(aj c b).pages[(k%c.pages).toNat]? =some x:=⟨_,List.getElem?_eq_getElem (by omega)⟩
  have ec:bJ c k=x:=by rw[bJ,rH];simp[List.getD,hx]
  rw[e]at hv⊢
  rw[Ak,qc]at hv⊢
  by_cases hs:(bn c).2=true
  ·
   rw[if_pos hs]at hv⊢
   have eg:((aj c b).pages.map (cQ (bn c).1.mask)).getD (k%c.pages).toNat []=cQ (bn c).1.mask x:=by simp[List.getD,hx]
   rw[eg]at hv⊢
   rcases bU.Aj hs with m|m
   ·
    rw[m,NL,ec,eb]
    exact⟨rfl,fun _=>by simp only;rw[if_pos hs];exact nR⟩
   ·
    rw[m]at hv;exact absurd hv (Hp (NM x))
  ·
   rw[if_neg hs]at hv
   have eg:((aj c b).pages.map fun _=>gw c.size).getD (k%c.pages).toNat []=gw c.size:=by simp[List.getD,hx]
   rw[eg]at hv
   exact absurd hv (Hp (aad _))
 ·
  rw[fA,if_neg h];exact⟨rfl,id⟩
theorem Wv.erase{g:Nat}{at_ a:List Int}{last:Int}{c:CV}(h:Wv g at_ last a c)(bU:gZ c){b:Int}(hb:b≠last)(oO:0≤b)(lh:0≤last):Wv g at_ last a (da c b):=by
 have hP:=(tr c b).pages
 have hp:2≤c.pages:=(fv.1 h.bears).2.2.1
 have nS:fB (da c b)=true:=by
  obtain⟨h1,h2,h3,h4⟩:=fv.1 h.bears
  exact fv.2 ⟨za h1 b,by rw[(tr c b).len];exact h2,by rw[hP];exact h3,by rw[(tr c b).size];exact h4⟩
 have qE: ∀k,0≤k→k≠b→(aj (da c b) k).pages=(aj c k).pages∧(aj (da c b) k).used=(aj c k).used:=fun k k0 hk=>by
  rw[da,sK.1,sK.2,xN (by omega)];exact⟨rfl,rfl⟩
 refine h.step nS hP (fun i i0 i1 i2=> ?_) fun k k0 k1 hv=> .inl ?_
 ·
  obtain⟨e1,e2⟩:=qE last lh (fun e=>hb e.symm)
  exact⟨by rw[bJ,bJ,hP,i1,e1],by rw[e2];exact i2⟩
 ·
  by_cases e:k/c.pages=b
  ·
   have:=NU bU k0 (by omega) e hv
   rw[e];exact this
  ·
   obtain⟨e1,e2⟩:=qE (k/c.pages) (Int.ediv_nonneg k0 (by omega)) e
   exact⟨by rw[bJ,bJ,hP,e1],by rw[e2];exact id⟩
theorem aae{c:CV}{b k:Int}{p:List UInt8}(bU:gZ c)(hk:0≤k)(hp:1≤c.pages)(rH:k/c.pages=b)(hv:(bB (bJ (bD c b p) k)).2=0):
  (bJ (bD c b p) k=bJ c k∧(k%c.pages<(aj c b).used→k%c.pages<(aj (bD c b p) b).used))∨(bJ (bD c b p) k=p∧k%c.pages<(aj (bD c b p) b).used):=by
 rw[bD,Dg]at hv⊢
 rw[sK.2]
 by_cases h:mq c b (aj c b).used p=true∧c.off=false∧(aj c b).bad=false∧(aj c b).used=(aj c b).used
 ·
  obtain⟨hh,u0,u1,_,_⟩:=iW.1 h.1
  have e:fK c b (aj c b).used p=gR c b (aj c b).used p:=if_pos h
  have eb:aj (gR c b (aj c b).used p) b={aj c b with used:=(aj c b).used+1,pages:=(aj c b).pages.set (aj c b).used.toNat (mZ c p)}:=oD hh
  have mD:0≤k%c.pages:=Int.emod_nonneg _ (by omega)
  have nR:k%c.pages<c.pages:=Int.emod_lt_of_pos _ (by omega)
  have zx:=(dX.1 (oB hh)).1
  have Ak:bJ (gR c b (aj c b).used p) k=((aj c b).pages.set (aj c b).used.toNat (mZ c p)).getD (k%c.pages).toNat []:=by
   show(aj (gR c b (aj c b).used p) (k/c.pages)).pages.getD _ []=_
   rw[rH,eb];rfl
  rw[e]at hv⊢
  rw[Ak]at hv⊢
  by_cases hj:k%c.pages=(aj c b).used
  ·
   have eg:((aj c b).pages.set (aj c b).used.toNat (mZ c p)).getD (k%c.pages).toNat []=mZ c p:=by
    rw[hj];simp only[List.getD];rw[List.getElem?_set_self (by omega)];rfl
   rw[eg]at hv⊢
   right
   refine⟨?_,by rw[eb];simp only;omega⟩
   rw[mZ]at hv⊢
   split
   ·
    rename_i hs
    rw[if_pos hs]at hv
    rcases bU.Aj hs with m|m
    ·
     rw[m]at hv;exact absurd hv (Hp (NM p))
    ·
     rw[m];exact NL p
   ·
    rfl
  ·
   left
   refine⟨?_,fun bp=>by rw[eb];simp only;omega⟩
   simp only[List.getD]
   rw[List.getElem?_set_ne (by omega),bJ,rH];rfl
 ·
  left;rw[fK,if_neg h];exact⟨rfl,id⟩
theorem aaf{c:CV}{b k:Int}{p:List UInt8}(hp:1≤c.pages)(rH:k/c.pages=b)(hu:k%c.pages<(aj c b).used):bJ (bD c b p) k=bJ c k∧k%c.pages<(aj (bD c b p) b).used:=by
 rw[bD,Dg,sK.2]
 by_cases h:mq c b (aj c b).used p=true∧c.off=false∧(aj c b).bad=false∧(aj c b).used=(aj c b).used
 ·
  obtain⟨hh,u0,u1,_,_⟩:=iW.1 h.1
  have e:fK c b (aj c b).used p=gR c b (aj c b).used p:=if_pos h
  have eb:aj (gR c b (aj c b).used p) b={aj c b with used:=(aj c b).used+1,pages:=(aj c b).pages.set (aj c b).used.toNat (mZ c p)}:=oD hh
  have mD:0≤k%c.pages:=Int.emod_nonneg _ (by omega)
  have Ak:bJ (gR c b (aj c b).used p) k=((aj c b).pages.set (aj c b).used.toNat (mZ c p)).getD (k%c.pages).toNat []:=by
   show(aj (gR c b (aj c b).used p) (k/c.pages)).pages.getD _ []=_
   rw[rH,eb];rfl
  rw[e,Ak,eb]
  refine⟨?_,by simp only;omega⟩
  simp only[List.getD]
  rw[List.getElem?_set_ne (by omega),bJ,rH];rfl
 ·
  rw[fK,if_neg h];exact⟨rfl,hu⟩
theorem Wv.prog{g:Nat}{at_ a:List Int}{last:Int}{c:CV}{p:List UInt8}(h:Wv g at_ last a c)(bU:gZ c){b:Int}(oO:0≤b)(lh:0≤last)(hr:bB p=(⟨g+1,a⟩,0)):Wv g at_ last a (bD c b p):=by
 have hP:=(gU c b p).pages
 have hp:2≤c.pages:=(fv.1 h.bears).2.2.1
 have nS:fB (bD c b p)=true:=by
  obtain⟨h1,h2,h3,h4⟩:=fv.1 h.bears
  exact fv.2 ⟨kz h1 b p,by rw[(gU c b p).len];exact h2,by rw[hP];exact h3,by rw[(gU c b p).size];exact h4⟩
 have qE: ∀k,0≤k→k≠b→(aj (bD c b p) k).pages=(aj c k).pages∧(aj (bD c b p) k).used=(aj c k).used:=fun k k0 hk=>by
  rw[bD,sK.1,sK.2,Nv (by omega)];exact⟨rfl,rfl⟩
 refine h.step nS hP (fun i i0 i1 i2=> ?_) fun k k0 k1 hv=> ?_
 ·
  by_cases e:last=b
  ·
   have:=aaf (p:=p) (show 1≤c.pages by omega) (i1.trans e) (by rw[←e];exact i2)
   rw[e];exact this
  ·
   obtain⟨e1,e2⟩:=qE last lh e
   exact⟨by rw[bJ,bJ,hP,i1,e1],by rw[e2];exact i2⟩
 ·
  by_cases e:k/c.pages=b
  ·
   rcases aae bU k0 (by omega) e hv with q|q
   ·
    left;rw[e];exact q
   ·
    right;rw[q.1,e];exact⟨hr,q.2⟩
  ·
   obtain⟨e1,e2⟩:=qE (k/c.pages) (Int.ediv_nonneg k0 (by omega)) e
   exact .inl ⟨by rw[bJ,bJ,hP,e1],by rw[e2];exact id⟩
end Go.Kb
