/- Part of a proof. -/
import Derived.Test.YtaipiecplldinaaGreatE5
import Derived.Test.YtaipiecplldinaaGreatE3
import Derived.Test.YtaipiecplldinaaGreatE4
import Derived.Test.YtaipiecplldinaaGreatE1
import Derived.Test.YtaipiecplldinaaGreatE2
import Derived.Lib.ReflectliteSwap
import Derived.Laws.Externs
set_option maxRecDepth 20000
set_option linter.unusedSimpArgs false
set_option linter.unusedVariables false
namespace Go.Proofs.YtaipiecplldinaaGreat
open Go.aA Go.Kb
instance (i:Int)(s:Sv):yT Tryz.prog 102 [(0, .int .i64 i),(1,s.val)] (.agg #[.int .i64 i,s.val]):=⟨fun w=>by
 obtain⟨n,b,o,l,c⟩:=s
 cases n<;>kernel_rfl⟩
theorem YY(w:World)(s:Sl (Sl UInt8))(i:Nat)(hs:Deep.bb (hp w) s):Calls Tryz.prog 114 #[s.sv.val, .int .i64 (i:Nat)] w fun e w'=>e= .returned (((qk s i).sv).val)∧Mem w [] w':=by
 have vH:cm w s:=⟨hs⟩
 refine ba (args:=[_,_]) Tryz.func114 rfl Tryz.ntmps114 rfl ?_
 change Cw _ _ _ _ _ [(0,s.sv.val),(1, .int .i64 (i:Nat))] []
 refine aP ?_
 refine aZ ?_
 refine ag (bp rfl) ?_
 refine aY ?_
 refine aO ?_
 refine aP ?_
 refine aP ?_
 refine aZ ?_
 refine ag (aE rfl) ?_
 refine ag (aE rfl) ?_
 refine ag (kC rfl) ?_
 refine ag (ck rfl rfl rfl) ?_
 refine aY ?_
 refine aO ?_
 refine au rfl (fun h0=> ?_) (fun h0=> ?_)
 ·
  try simp only[Z0,Z1,Z2,Z3,Z4,Z5,Z6,Z7,Z8,Z9]at h0
  refine aP ?_
  refine aZ ?_
  refine ag (bp rfl) ?_
  refine aY ?_
  refine aO ?_
  refine eK ?_
  refine fm ?_
  refine aq (.inl rfl) (aJ rfl (al rfl)) (fun w1 hw=> ?_)
  exact⟨by rw[BG (by omega)];rfl,ah.mem hw⟩
 ·
  try simp only[Z0,Z1,Z2,Z3,Z4,Z5,Z6,Z7,Z8,Z9]at h0
  refine gf ?_
  refine aO ?_
  refine aP ?_
  refine aZ ?_
  refine ag (aE rfl) ?_
  refine ag (aE rfl) ?_
  obtain⟨u,hu⟩:=get_some (xs:=s.xs) (i:=i) (by omega)
  refine ag (bk rfl rfl i rfl (by omega)) ?_
  refine ag (bP (j:=0) rfl i hu rfl (by decide)) ?_
  have ajx:Mb u _:=⟨List.mem_of_getElem? hu⟩
  refine ag (bp rfl) ?_
  refine aY ?_
  refine aO ?_
  refine eK ?_
  refine aq (.inl rfl) (aJ rfl (al rfl)) (fun w1 hw=> ?_)
  exact⟨by rw[BF hu],ah.mem hw⟩
instance ajy{w0:World}{L:List ai}{s:Sl (Sl UInt8)}{i:Nat}[hs:aW w0 L s]:cI Tryz.prog 114 w0 L [s.sv.val, .int .i64 (i:Nat)] (((qk s i).sv).val) (True):=⟨fun hp w hw=>YY w s i (hs.h w hw)⟩
theorem YZ(w:World)(x:Sv)(xs:List UInt8)(y:Sv)(ys:List UInt8)(hx:bQ aN 1 (hp w) x xs)(hy:bQ aN 1 (hp w) y ys):Calls Tryz.prog 115 #[x.val,y.val] w fun e w'=>e= .returned (.bool (decide (xs=ys)))∧Mem w [] w':=by
 have uh:Gv w x aN 1 xs:=⟨hx⟩
 have G6:Gv w y aN 1 ys:=⟨hy⟩
 refine ba (args:=[_,_]) Tryz.func115 rfl Tryz.ntmps115 rfl ?_
 change Cw _ _ _ _ _ [(0,x.val),(1,y.val)] []
 refine aP ?_
 refine aZ ?_
 refine ag (bp rfl) ?_
 refine aY ?_
 refine aO ?_
 refine aP ?_
 refine aZ ?_
 refine ag (aE rfl) ?_
 refine ag (BD Tryz.underlying38 Tryz.underlying5 Tryz.underlying9 rfl) ?_
 refine ag (aE rfl) ?_
 refine ag (BD Tryz.underlying38 Tryz.underlying5 Tryz.underlying9 rfl) ?_
 refine ag (Rw rfl rfl) ?_
 refine ag (bp rfl) ?_
 refine aY ?_
 refine aO ?_
 refine eK ?_
 refine aq (.inl rfl) (aJ rfl (al rfl)) (fun w1 hw=> ?_)
 exact⟨congrArg (fun b=>Ending.returned (Value.bool b)) (rfl),ah.mem hw⟩
instance ajz{w0:World}{L:List ai}{x:Sv}{xs:List UInt8}{y:Sv}{ys:List UInt8}[hx:df w0 L aN 1 x xs][hy:df w0 L aN 1 y ys]:cI Tryz.prog 115 w0 L [x.val,y.val] (.bool (decide (xs=ys))) (True):=⟨fun hp w hw=>YZ w x xs y ys (hx.h w hw) (hy.h w hw)⟩
theorem Y0(w:World)(x:Sv)(xs:List UInt8)(hx:bQ aN 1 (hp w) x xs)(bc:xs.length≤140737488355328):Calls Tryz.prog 110 #[x.val] w fun e w'=> ∃zz:Sv,e= .returned (zz.val)∧(True)∧Mem w [own aN 1 zz xs] w':=by
 have uh:Gv w x aN 1 xs:=⟨hx⟩
 refine ba (args:=[_]) Tryz.func110 rfl Tryz.ntmps110 rfl ?_
 change Cw _ _ _ _ _ [(0,x.val)] []
 refine aP ?_
 refine aZ ?_
 refine ag (bp rfl) ?_
 refine aY ?_
 refine aO ?_
 refine aP ?_
 refine aP ?_
 refine aZ ?_
 refine ag (aE rfl) ?_
 refine ag (sq Tryz.underlying38 rfl) ?_
 refine aY ?_
 refine aO ?_
 refine au rfl (fun h0=> ?_) (fun h0=> ?_)
 ·
  try simp only[Z0,Z1,Z2,Z3,Z4,Z5,Z6,Z7,Z8,Z9]at h0
  have e0:xs=[]:=List.length_eq_zero_iff.1 (by have:=hx.ok.nil h0;have:=hx.len;omega)
  refine aP ?_
  refine aZ ?_
  refine ag (bp rfl) ?_
  refine aY ?_
  refine aO ?_
  refine eK ?_
  refine fm ?_
  refine aq (.inl rfl) (aJ rfl (al rfl)) (fun w1 hw=> ?_)
  exact⟨Sv.none,rfl,trivial,by rw[e0];exact(ah.mem hw:Mem w [] _).dZ aN 1⟩
 ·
  try simp only[Z0,Z1,Z2,Z3,Z4,Z5,Z6,Z7,Z8,Z9]at h0
  refine gf ?_
  refine aO ?_
  refine aP ?_
  refine aZ ?_
  refine tC aN fun b5=> ?_
  refine ag (aE rfl) ?_
  refine my (s:=⟨false,b5,0,0,0,none⟩) (ys:=xs) rfl rfl (by decide) (fun w hw=>kW (s:=x) Tryz.underlying38 (by decide) ((inferInstance:Hd _ _ x aN 1 xs).h w hw)) (by simp only[List.length_append,List.length_cons,List.length_nil];omega) (by simp only[List.length_append,List.length_cons,List.length_nil];omega) fun s7 vI ub=> ?_
  refine ag (bp rfl) ?_
  refine aY ?_
  refine aO ?_
  refine eK ?_
  refine aq (.inl rfl) (aJ rfl (al rfl)) (fun w1 hw=> ?_)
  exact⟨s7,rfl,trivial,by simpa using hw⟩
instance ajA{w0:World}{L:List ai}{x:Sv}{xs:List UInt8}[hx:df w0 L aN 1 x xs]:cn Tryz.prog 110 w0 L [x.val] (Sv) (fun zz=>zz.val) (fun zz=>own aN 1 zz xs::L) (fun zz=>True) (xs.length≤140737488355328):=⟨fun hp w hw=>(Y0 w x xs (hx.h w hw) hp).mono fun e w' ⟨x,h1,h2,h3⟩=>⟨x,h1,h2,hw.call h3⟩⟩
theorem Y1(w:World)(a:Sl (Sl UInt8))(b:Sl (Sl UInt8))(ha:Deep.bb (hp w) a)(hb:Deep.bb (hp w) b)(bc:a.xs.length≤1000000∧b.xs.length≤1000000∧ ∀x∈b.xs,x.xs.length≤140737488355328):Calls Tryz.prog 77 #[a.sv.val,b.sv.val] w fun e w'=> ∃zz:Sl It,e= .returned (zz.sv.val)∧(vg zz=eG (lx a) (lx b))∧Mem w [Deep.cx zz] w':=by
 have xJ:cm w a:=⟨ha⟩
 have vL:cm w b:=⟨hb⟩
 obtain⟨oS,qM,xz⟩:=bc
 refine ba (args:=[_,_]) Tryz.func77 rfl Tryz.ntmps77 rfl ?_
 change Cw _ _ _ _ _ [(0,a.sv.val),(1,b.sv.val)] []
 refine aP ?_
 refine aZ ?_
 refine ag (bp rfl) ?_
 refine aY ?_
 refine aO ?_
 refine aP ?_
 refine aZ ?_
 refine ag (bp rfl) ?_
 refine aY ?_
 refine aO ?_
 refine aP ?_
 refine aP ?_
 refine aZ ?_
 refine ag (aE rfl) ?_
 refine ag (kC rfl) ?_
 refine ag (aE rfl) ?_
 refine ag (kC rfl) ?_
 refine ag (uS rfl rfl) ?_
 refine ag (aE rfl) ?_
 refine aY ?_
 refine aO ?_
 refine lR ?_
 refine cc (X:=Nat×Sl It) (fun zz=>[(13, .int .i64 (zz.1:Nat)),(5,zz.2.sv.val),(0,a.sv.val),(1,b.sv.val),(12, .int .i64 (max (a.xs.length:Int) (b.xs.length:Int)))]) (fun zz=>[Deep.cx zz.2]) (fun zz=>zz.1≤max a.xs.length b.xs.length∧vg zz.2=mM (lx a) (lx b) zz.1) (fun zz=>max a.xs.length b.xs.length -zz.1) (0,⟨Sv.none,[]⟩) ⟨by first|omega|(simp only[];omega),rfl⟩ (Sub.cons rfl (Sub.cons rfl (Sub.cons rfl (Sub.cons rfl (Sub.cons rfl (Sub.nil _)))))) (fun w hw=>Mem.BE (enc:=nV) (c:=2) hw) ?_
 rintro⟨i,l⟩ ⟨bj,aH⟩
 dsimp only
 refine aP ?_
 refine aZ ?_
 refine ag (ck rfl rfl rfl) ?_
 refine aY ?_
 refine aO ?_
 refine aP ?_
 refine au rfl (fun h0=> ?_) (fun h0=> ?_)
 ·
  try simp only[Z0,Z1,Z2,Z3,Z4,Z5,Z6,Z7,Z8,Z9]at h0
  refine gf ?_
  refine aO ?_
  refine aP ?_
  refine lR ?_
  refine aP ?_
  refine aZ ?_
  refine ag (aE rfl) ?_
  refine ag (bp rfl) ?_
  refine aY ?_
  refine aO ?_
  refine aP ?_
  refine aZ ?_
  refine ag (aE rfl) ?_
  refine ag (aE rfl) ?_
  refine fH (cE rfl trivial) ?_
  refine ag (bp rfl) ?_
  refine aY ?_
  refine aO ?_
  refine aP ?_
  refine aZ ?_
  refine ag (aE rfl) ?_
  refine ag (aE rfl) ?_
  refine fH (cE rfl trivial) ?_
  refine ag (aE rfl) ?_
  refine fH (cE rfl trivial) ?_
  refine ag (iq rfl) ?_
  refine aY ?_
  refine aO ?_
  refine au rfl (fun h1=> ?_) (fun h1=> ?_)
  ·
   try simp only[Z0,Z1,Z2,Z3,Z4,Z5,Z6,Z7,Z8,Z9]at h1
   refine aZ ?_
   refine ag (aE rfl) ?_
   refine ag (aE rfl) ?_
   refine ag (aE rfl) ?_
   refine bo rfl (by rcases Nat.lt_or_ge i b.xs.length with h|h;exact xz _ (by rw[BF (List.getElem?_eq_getElem h)];exact List.getElem_mem h);rw[BG h];exact Nat.zero_le _) fun dB mU=> ?_
   refine ag (tl rfl) ?_
   refine pv (enc:=nV) (vals:=[_]) [(⟨((i:Nat):Int),⟨dB,((qk b i).xs)⟩⟩:It)] rfl rfl rfl (by decide) (by decide) fun fP=> ?_
   refine RE (s:=⟨false,fP,0,1,1,none⟩) l [(⟨((i:Nat):Int),⟨dB,((qk b i).xs)⟩⟩:It)] rfl rfl (by decide) (by have:=congrArg List.length aH;have h9:=CS (lx a) (lx b) i;simp only[vg,List.length_map]at this;simp only[List.length_cons,List.length_nil];omega) (by have:=congrArg List.length aH;have h9:=CS (lx a) (lx b) i;simp only[vg,List.length_map]at this;simp only[List.length_cons,List.length_nil];omega) fun lj Y2=> ?_
   refine ag (bp rfl) ?_
   refine aY ?_
   refine pq ?_
   refine aO ?_
   refine aZ ?_
   refine ag (qf rfl rfl (by omega)) ?_
   refine ag (aE rfl) ?_
   refine aY ?_
   exact bA (x:=(i,l)) (i+1,lj) ⟨by first|omega|(simp only[];omega),by rw[vg,Y2,List.map_append,Mf (by rw[←za,←za];exact h1),←aH,←za];rfl⟩ (by simp only;omega) (Sub.cons rfl (Sub.cons rfl (Sub.cons rfl (Sub.cons rfl (Sub.cons rfl (Sub.nil _)))))) (fun w hw=>ah.mem hw)
  ·
   try simp only[Z0,Z1,Z2,Z3,Z4,Z5,Z6,Z7,Z8,Z9]at h1
   refine gf ?_
   refine pq ?_
   refine aO ?_
   refine aZ ?_
   refine ag (qf rfl rfl (by omega)) ?_
   refine ag (aE rfl) ?_
   refine aY ?_
   exact bA (x:=(i,l)) (i+1,l) ⟨by first|omega|(simp only[];omega),by rw[Me (by rw[←za,←za];exact h1)];exact aH⟩ (by simp only;omega) (Sub.cons rfl (Sub.cons rfl (Sub.cons rfl (Sub.cons rfl (Sub.cons rfl (Sub.nil _)))))) (fun w hw=>ah.mem hw)
 ·
  try simp only[Z0,Z1,Z2,Z3,Z4,Z5,Z6,Z7,Z8,Z9]at h0
  refine sj ?_
  refine mr ?_
  refine mr ?_
  refine sk ?_
  refine aO ?_
  refine aP ?_
  refine aZ ?_
  refine ag (aE rfl) ?_
  refine ag (bp rfl) ?_
  refine aY ?_
  refine aO ?_
  refine eK ?_
  refine aq (.inl rfl) (aJ rfl (al rfl)) (fun w1 hw=> ?_)
  exact⟨l,rfl,(by rw[aH,eG,vc,vc,show i=max a.xs.length b.xs.length by omega]),ah.mem hw⟩
instance ajB{w0:World}{L:List ai}{a:Sl (Sl UInt8)}{b:Sl (Sl UInt8)}[ha:aW w0 L a][hb:aW w0 L b]:cn Tryz.prog 77 w0 L [a.sv.val,b.sv.val] (Sl It) (fun zz=>zz.sv.val) (fun zz=>Deep.cx zz::L) (fun zz=>vg zz=eG (lx a) (lx b)) (a.xs.length≤1000000∧b.xs.length≤1000000∧ ∀x∈b.xs,x.xs.length≤140737488355328):=⟨fun hp w hw=>(Y1 w a b (ha.h w hw) (hb.h w hw) hp).mono fun e w' ⟨x,h1,h2,h3⟩=>⟨x,h1,h2,hw.call h3⟩⟩
open Go.aA Go.Kb
theorem Y3(w:World)(b:Sv)(bs:List UInt8)(hb:bQ aN 1 (hp w) b bs)(bc:bs.length=20):Calls Tryz.prog 139 #[b.val] w fun e w'=>e= .returned (.tuple #[.agg (ax (rdv bs)), .bool (oc bs)])∧Mem w [] w':=by
 have vL:Gv w b aN 1 bs:=⟨hb⟩
 have eg: ∀(i:Nat) e,bs[i]? =some e→bs.getD i 0=e:=fun i e h=>by simp[List.getD,h]
 obtain⟨e6,NO⟩:=get_some (xs:=bs) (i:=0) (by omega)
 have Az:=eg 0 e6 NO
 refine ba (args:=[_]) Tryz.func139 rfl Tryz.ntmps139 rfl ?_
 change Cw _ _ _ _ _ [(0,b.val)] []
 refine aP ?_
 refine aZ ?_
 refine bH fun b2=> ?_
 refine ag (bp rfl) ?_
 refine aY ?_
 refine aO ?_
 refine aP ?_
 refine aZ ?_
 refine bH fun b4=> ?_
 refine aY ?_
 refine aO ?_
 refine Bt (X:=Unit) (fun zz=>[(0,b.val),(2, .pointer (some ⟨b2,0,none⟩)),(4, .pointer (some ⟨b4,0,none⟩))]) (fun zz=>[ar b4 ((ax fQ).setIfInBounds 0 (.int .i64 (if e6=1 then 128 else 32))) 68,ar b2 (ax fQ) 68]) (fun zz=>e6≤1) ?_ ?_
 ·
  refine aP ?_
  refine aZ ?_
  refine ag (aE rfl) ?_
  refine ag (bk rfl rfl 0 rfl (by omega)) ?_
  refine ag (bP (j:=0) rfl 0 NO rfl (by decide)) ?_
  refine aY ?_
  refine aO ?_
  refine lR ?_
  refine aP ?_
  refine aZ ?_
  refine ag (ck rfl rfl rfl) ?_
  refine ag (bp rfl) ?_
  refine aY ?_
  refine aO ?_
  refine au rfl (fun h0=> ?_) (fun h0=> ?_)
  ·
   try simp only[Z0,Z1,Z2,Z3,Z4,Z5,Z6,Z7,Z8,Z9]at h0
   obtain rfl:e6=0:=UInt8.toNat_inj.1 (by simp;omega)
   refine aZ ?_
   refine ag (aI (o':=0) rfl rfl) ?_
   refine ag (aI (o':=0) rfl rfl) ?_
   refine eV rfl rfl (by simp[kD]) rfl rfl ?_
   refine aY ?_
   refine pq ?_
   exact tr () (by decide) (Sub.cons rfl (Sub.cons rfl (Sub.cons rfl (Sub.nil _)))) (fun w hw=>hw)
  ·
   try simp only[Z0,Z1,Z2,Z3,Z4,Z5,Z6,Z7,Z8,Z9]at h0
   refine aP ?_
   refine aZ ?_
   refine ag (ck rfl rfl rfl) ?_
   refine ag (bp rfl) ?_
   refine aY ?_
   refine aO ?_
   refine au rfl (fun h1=> ?_) (fun h1=> ?_)
   ·
    try simp only[Z0,Z1,Z2,Z3,Z4,Z5,Z6,Z7,Z8,Z9]at h1
    obtain rfl:e6=1:=UInt8.toNat_inj.1 (by simp;omega)
    refine aZ ?_
    refine ag (aI (o':=0) rfl rfl) ?_
    refine ag (aI (o':=0) rfl rfl) ?_
    refine eV rfl rfl (by simp[kD]) rfl rfl ?_
    refine aY ?_
    refine pq ?_
    exact tr () (by decide) (Sub.cons rfl (Sub.cons rfl (Sub.cons rfl (Sub.nil _)))) (fun w hw=>hw)
   ·
    try simp only[Z0,Z1,Z2,Z3,Z4,Z5,Z6,Z7,Z8,Z9]at h1
    have NP: ¬e6≤1:=fun h=>by rw[UInt8.le_iff_toNat_le]at h;simp at h;omega
    refine aP ?_
    refine aZ ?_
    refine ag (tl rfl) ?_
    refine rb rfl rfl ?_
    refine ag (bp rfl) ?_
    refine aY ?_
    refine aO ?_
    refine eK ?_
    refine m0 ?_
    refine fm ?_
    refine aq (.inl rfl) (bq rfl (cf rfl) (al rfl)) (fun w1 hw=> ?_)
    exact⟨by rw[show oc bs=false from by rw[oc,Az];exact decide_eq_false NP,show rdv bs=fQ from if_neg (by rw[oc,Az];simpa using NP)],ah.mem hw⟩
 ·
  rintro⟨⟩ hJ
  refine aP ?_
  refine aZ ?_
  refine ag (aE rfl) ?_
  obtain⟨Du,NQ⟩:=get_some (xs:=bs) (i:=1) (by omega)
  refine ag (bk rfl rfl 1 rfl (by omega)) ?_
  refine ag (bP (j:=0) rfl 1 NQ rfl (by decide)) ?_
  have Y4:=eg 1 Du NQ
  refine ag (vb rfl) ?_
  refine ag (aI (o':=0) rfl rfl) ?_
  refine ag (aI (o':=1) rfl rfl) ?_
  refine eV rfl rfl (by simp[kD]) rfl rfl ?_
  refine aY ?_
  refine aO ?_
  refine aP ?_
  refine jE [5] [[],[],[],[],[],[]] [0,1,2,3,4,5] [] (fun _ hw=>ah.mem hw) (by kernel_rfl) (by kernel_rfl) ?_
  refine an rfl (aI (o':=0) rfl rfl) ?_
  refine an rfl (aI (o':=2) rfl rfl) ?_
  refine an rfl (uR rfl) ?_
  refine an rfl (aE rfl) ?_
  have Da:Rg 2 18 bs.length:=⟨by omega⟩
  refine an rfl (BB rfl rfl rfl 2 18 rfl rfl Da.h.1 Da.h.2) ?_
  refine dN rfl (Sy (ys:=(bs.drop 2).take 16) rfl rfl (by simp;omega) (by simp;omega) (by simp[kD];omega) rfl ⟨fun _ hw=>ah.mem hw,?_⟩)
  refine BZ ?_
  refine aO ?_
  refine aP ?_
  refine jE [11] [[],[],[],[],[],[],[],[],[],[],[],[]] [0,1,2,3,4,5,6,7,8,9,10,11] [] (fun _ hw=>ah.mem hw) (by kernel_rfl) (by kernel_rfl) ?_
  refine an rfl (aE rfl) ?_
  obtain⟨Y5,NR⟩:=get_some (xs:=bs) (i:=18) (by omega)
  refine an rfl (bk rfl rfl 18 rfl (by omega)) ?_
  refine an rfl (bP (j:=0) rfl 18 NR rfl (by decide)) ?_
  have Y6:=eg 18 Y5 NR
  refine an rfl (vb rfl) ?_
  refine an rfl (Jy rfl rfl) ?_
  refine an rfl (aE rfl) ?_
  obtain⟨Y7,NT⟩:=get_some (xs:=bs) (i:=19) (by omega)
  refine an rfl (bk rfl rfl 19 rfl (by omega)) ?_
  refine an rfl (bP (j:=0) rfl 19 NT rfl (by decide)) ?_
  have Y8:=eg 19 Y7 NT
  refine an rfl (vb rfl) ?_
  refine an rfl (Jz rfl rfl) ?_
  refine an rfl (aI (o':=18) rfl rfl) ?_
  refine dN rfl (wU rfl rfl (by rw[m9 (by rw[List.size_toArray,hK];simp[kD];omega)];simp[kD]) rfl rfl ⟨fun _ hw=>ah.mem hw,?_⟩)
  refine BZ ?_
  refine aO ?_
  refine aP ?_
  refine rl [ar b4 (ax (oR bs)) 68,ar b2 (ax fQ) 68] (fun w hw=> ?_) ?_
  ·
   rw[←UI (b:=bs) bc (if e6=1 then 128 else 32) (by rw[Az]),Y4,Y6,Y8];exact hw
  refine aZ ?_
  refine ag (eJ rfl) ?_
  refine rb rfl rfl ?_
  refine ag (bp rfl) ?_
  refine aY ?_
  refine aO ?_
  refine eK ?_
  refine aq (.inl rfl) (bq rfl (cf rfl) (al rfl)) (fun w1 hw=> ?_)
  exact⟨by rw[show rdv bs=oR bs from if_pos (by rw[oc,Az];exact decide_eq_true hJ),show oc bs=true from by rw[oc,Az];exact decide_eq_true hJ],ah.mem hw⟩
instance ajC{w0:World}{L:List ai}{b:Sv}{bs:List UInt8}[hb:df w0 L aN 1 b bs]:cI Tryz.prog 139 w0 L [b.val] (.tuple #[.agg (ax (rdv bs)), .bool (oc bs)]) (bs.length=20):=⟨fun hp w hw=>Y3 w b bs (hb.h w hw) hp⟩
open Go.aA Go.Kb
instance ajD{w0:World}{L:List ai}{s:Sv}{xs:List UInt8}{r:Rt}{i:Nat}{L':Sv→List ai}[q:fJ L s aN 1 xs i][u: ∀s',fD L i (own aN 1 s' (xs++eP r)) (L' s')]:cn Tryz.prog 113 w0 L [s.val, .agg (ax r)] Sv (fun s=>s.val) L' (fun _=>True) (xs.length≤1000000):=⟨fun hp w hw=>
 (YH w0 w (L.eraseIdx i) s xs r (hw.perm (nU q.h)) hp).mono fun e w' ⟨s',h1,h2,h3,h4⟩=>⟨s',h1,trivial,by
  rw[←(u s').h]
  exact h4.perm (set_perm _ L i (At.lt q.h))⟩⟩
theorem Y9(w:World)(a:Sl (Sl UInt8))(ha:Deep.bb (hp w) a)(bc:a.xs.length≤1000∧ ∀x∈a.xs,x.xs.length≤100000):Calls Tryz.prog 101 #[a.sv.val] w fun e w'=> ∃zz:Sv,e= .returned (.tuple #[zz.val, .int .i64 (jh (lx a))])∧(True)∧Mem w [own ax 19 zz (iD (lx a))] w':=by
 have xJ:cm w a:=⟨ha⟩
 obtain⟨oS,qM⟩:=bc
 have hl:=vc a
 refine ba (args:=[_]) Tryz.func101 rfl Tryz.ntmps101 rfl ?_
 change Cw _ _ _ _ _ [(0,a.sv.val)] []
 refine aP ?_
 refine aZ ?_
 refine ag (bp rfl) ?_
 refine ag (bp rfl) ?_
 refine aY ?_
 refine aO ?_
 refine aP ?_
 refine aZ ?_
 refine ag (bp rfl) ?_
 refine aY ?_
 refine aO ?_
 refine aP ?_
 refine aP ?_
 refine aZ ?_
 refine ag (aE rfl) ?_
 refine ag (kC rfl) ?_
 refine ag (aE rfl) ?_
 refine aY ?_
 refine aO ?_
 refine lR ?_
 refine cc (X:=Nat×Sv×List Rt) (fun zz=>[(11, .int .i64 (zz.1:Nat)),(4,zz.2.1.val),(9,a.sv.val),(10, .int .i64 (a.xs.length:Nat))]) (fun zz=>[own ax 19 zz.2.1 zz.2.2]) (fun zz=>zz.1≤a.xs.length∧fU ((lx a).take zz.1)=some zz.2.2∧zz.2.2.length≤zz.1*100000) (fun zz=>a.xs.length -zz.1) (0,Sv.none,[]) ⟨by first|omega|(simp only[];omega),rfl,by simp⟩ (Sub.cons rfl (Sub.cons rfl (Sub.cons rfl (Sub.cons rfl (Sub.nil _))))) (fun w hw=>Mem.dZ ax 19 hw) ?_
 rintro⟨i,t,q⟩ ⟨bj,aH,bG⟩
 dsimp only
 simp only at bj aH bG
 refine aP ?_
 refine aZ ?_
 refine ag (ck rfl rfl rfl) ?_
 refine aY ?_
 refine aO ?_
 refine aP ?_
 refine au rfl (fun h0=> ?_) (fun h0=> ?_)
 ·
  try simp only[Z0,Z1,Z2,Z3,Z4,Z5,Z6,Z7,Z8,Z9]at h0
  refine gf ?_
  refine aO ?_
  refine aP ?_
  refine lR ?_
  refine aP ?_
  refine aZ ?_
  obtain⟨x,hx⟩:=get_some (xs:=a.xs) (i:=i) (by omega)
  refine ag (bk rfl rfl i rfl (by omega)) ?_
  refine ag (bP (j:=0) rfl i hx rfl (by decide)) ?_
  have Ab:Mb x _:=⟨List.mem_of_getElem? hx⟩
  have ex:(lx a)[i]? =some x.xs:=by simp[lx,hx]
  have C9:Mb x _:=⟨List.mem_of_getElem? hx⟩
  refine ag (bp rfl) ?_
  refine aY ?_
  refine aO ?_
  refine aP ?_
  refine aP ?_
  refine aZ ?_
  refine ag (aE rfl) ?_
  refine ag (kC rfl) ?_
  refine ag (y5 (p:=x.xs.length) (q:=20) rfl rfl rfl rfl (by omega)) ?_
  refine ag (ck rfl rfl rfl) ?_
  refine aY ?_
  refine aO ?_
  refine au rfl (fun h1=> ?_) (fun h1=> ?_)
  ·
   try simp only[Z0,Z1,Z2,Z3,Z4,Z5,Z6,Z7,Z8,Z9]at h1
   have ig:fU (lx a)=none:=Mc (i:=i+1) (by rw[Gw ex,aH,Ma _ x.xs (Nat.le_refl _) (by omega)];rfl)
   refine aP ?_
   refine aZ ?_
   refine ag (bp rfl) ?_
   refine ag (bp rfl) ?_
   refine aY ?_
   refine aO ?_
   refine eK ?_
   refine fm ?_
   refine m0 ?_
   refine fm ?_
   refine fm ?_
   refine m0 ?_
   refine fm ?_
   refine aq (.inl rfl) (bq rfl (al rfl) (al rfl)) (fun w1 hw=> ?_)
   exact⟨Sv.none,by rw[(CR ig).2];rfl,trivial,by rw[(CR ig).1];exact(ah.mem hw:Mem w [] _).dZ ax 19⟩
  ·
   try simp only[Z0,Z1,Z2,Z3,Z4,Z5,Z6,Z7,Z8,Z9]at h1
   refine gf ?_
   refine aO ?_
   refine lR ?_
   refine cc (X:=Sv×List UInt8×Sv×List Rt) (fun zz=>[(6,zz.1.val),(4,zz.2.2.1.val),(9,a.sv.val),(10, .int .i64 (a.xs.length:Nat)),(11, .int .i64 (i:Nat))]) (fun zz=>[own ax 19 zz.2.2.1 zz.2.2.2]) (fun zz=> ∃pre,zz.2.2.2=q++pre∧lG x.xs=(lG zz.2.1).map (pre++ ·)∧bQ aN 1 (hp w) zz.1 zz.2.1∧zz.2.1.length%20=0∧zz.2.2.2.length+zz.2.1.length≤(i+1)*100000) (fun zz=>zz.2.1.length) (x.sv,x.xs,t,q) ⟨[],by simp,by cases lG x.xs<;>rfl,(ha.2 x (List.mem_of_getElem? hx)).1,by first|omega|(simp only[];omega),by have:=qM x (List.mem_of_getElem? hx);simp only;omega⟩ (Sub.cons rfl (Sub.cons rfl (Sub.cons rfl (Sub.cons rfl (Sub.cons rfl (Sub.nil _)))))) (fun w hw=>ah.mem hw) ?_
   rintro⟨cu,cs,t2,q2⟩ ⟨pre,iG,dF,jk,lL,yg⟩
   dsimp only
   simp only at iG dF jk lL yg
   have gcu:Gv w cu aN 1 cs:=⟨jk⟩
   refine aP ?_
   refine aP ?_
   refine aZ ?_
   refine ag (aE rfl) ?_
   refine ag (kC rfl) ?_
   refine ag (ck rfl rfl rfl) ?_
   refine aY ?_
   refine aO ?_
   refine au rfl (fun h2=> ?_) (fun h2=> ?_)
   ·
    try simp only[Z0,Z1,Z2,Z3,Z4,Z5,Z6,Z7,Z8,Z9]at h2
    have Za:20≤cs.length:=by omega
    have HI:(cs.drop 0).take (20 -0)=cs.take 20:=by simp
    have ec:=Gu Za
    rw[Mg]at ec
    refine gf ?_
    refine aO ?_
    refine aP ?_
    refine lR ?_
    refine aP ?_
    refine aZ ?_
    refine ag (aE rfl) ?_
    have Zb:Rg 0 20 cs.length:=⟨by omega⟩
    refine ag (JB rfl rfl 20 rfl Zb.h.2) ?_
    refine fH (cE rfl (by simp;omega)) ?_
    refine ag (aE rfl) ?_
    refine ag (aU (v:= .agg (ax (rdv ((cs.drop 0).take (20 -0))))) rfl rfl) ?_
    refine ag (aU (v:= .bool (oc ((cs.drop 0).take (20 -0)))) rfl rfl) ?_
    refine bH fun b7=> ?_
    refine rb rfl rfl ?_
    refine ag (bp rfl) ?_
    refine aY ?_
    refine aO ?_
    refine aP ?_
    refine aP ?_
    refine aZ ?_
    refine ag (aE rfl) ?_
    refine ag (iq rfl) ?_
    refine aY ?_
    refine aO ?_
    refine au rfl (fun h3=> ?_) (fun h3=> ?_)
    ·
     try simp only[Z0,Z1,Z2,Z3,Z4,Z5,Z6,Z7,Z8,Z9]at h3
     rw[HI]at h3
     have ig:fU (lx a)=none:=Mc (i:=i+1) (by rw[Gw ex,aH,dF,ec,h3];rfl)
     refine aP ?_
     refine aZ ?_
     refine ag (bp rfl) ?_
     refine ag (bp rfl) ?_
     refine aY ?_
     refine aO ?_
     refine eK ?_
     refine fm ?_
     refine m0 ?_
     refine fm ?_
     refine fm ?_
     refine m0 ?_
     refine m0 ?_
     refine fm ?_
     refine fm ?_
     refine m0 ?_
     refine fm ?_
     refine aq (.inl rfl) (bq rfl (al rfl) (al rfl)) (fun w1 hw=> ?_)
     exact⟨Sv.none,by rw[(CR ig).2];rfl,trivial,by rw[(CR ig).1];exact(ah.mem hw:Mem w [] _).dZ ax 19⟩
    ·
     try simp only[Z0,Z1,Z2,Z3,Z4,Z5,Z6,Z7,Z8,Z9]at h3
     rw[HI]at h3
     rw[h3]at ec
     simp only[if_true,Option.bind_some]at ec
     have Zc:rdv ((cs.drop 0).take (20 -0))=oR (cs.take 20):=by rw[HI,rdv,if_pos h3]
     refine gf ?_
     refine aO ?_
     refine aZ ?_
     refine ag (aE rfl) ?_
     refine ag (eJ rfl) ?_
     refine pv (enc:=ax) (vals:=[_]) [(rdv ((cs.drop 0).take (20 -0)))] rfl rfl rfl (by decide) (by decide) fun Aw=> ?_
     refine my (s:=t2) (ys:=[(rdv ((cs.drop 0).take (20 -0)))]) rfl rfl (by decide) (fun w hw=>kW (s:=⟨false,Aw,0,1,1,none⟩) Tryz.underlying52 (by decide) ((inferInstance:Hd _ _ ⟨false,Aw,0,1,1,none⟩ ax 19 [(rdv ((cs.drop 0).take (20 -0)))]).h w hw)) (by simp only[List.length_cons,List.length_nil];omega) (by simp only[List.length_cons,List.length_nil];omega) fun Zd ajE ajF=> ?_
     refine ag (bp rfl) ?_
     refine aY ?_
     refine pq ?_
     refine aO ?_
     refine aZ ?_
     refine ag (aE rfl) ?_
     have Ze:Rg 20 cs.length cs.length:=⟨by omega⟩
     refine ag (BC rfl rfl 20 rfl Ze.h.1) ?_
     refine ag (bp rfl) ?_
     refine aY ?_
     exact bA (x:=(cu,cs,t2,q2)) (_,cs.drop 20,Zd,q2++[oR (cs.take 20)]) ⟨pre++[oR (cs.take 20)],by simp[iG],by rw[dF,ec];cases lG (cs.drop 20)<;>simp,by have:=jk.sub (lo:=20) (hi:=cs.length) (by first|omega|(simp only[];omega)) (Nat.le_refl _);rwa [List.take_of_length_le (by rw[List.length_drop];omega)]at this,by simp only[List.length_drop];omega,by simp only[List.length_append,List.length_drop,List.length_cons,List.length_nil];omega⟩ (by simp only[List.length_drop];omega) (Sub.cons rfl (Sub.cons rfl (Sub.cons rfl (Sub.cons rfl (Sub.cons rfl (Sub.nil _)))))) (fun w hw=>by rw[Zc]at hw;exact ah.mem hw)
   ·
    try simp only[Z0,Z1,Z2,Z3,Z4,Z5,Z6,Z7,Z8,Z9]at h2
    refine sj ?_
    refine mr ?_
    refine mr ?_
    refine sk ?_
    refine pq ?_
    refine aO ?_
    refine aZ ?_
    refine ag (qf rfl rfl (by omega)) ?_
    refine ag (aE rfl) ?_
    refine aY ?_
    exact bA (x:=(i,t,q)) (i+1,t2,q2) ⟨by first|omega|(simp only[];omega),by rw[Gw ex,aH,Option.bind_some,dF,show cs=[]from List.length_eq_zero_iff.1 (by first|omega|(simp only[];omega)),Gt];simp[iG],by simp only;omega⟩ (by simp only;omega) (Sub.cons rfl (Sub.cons rfl (Sub.cons rfl (Sub.cons rfl (Sub.nil _))))) (fun w hw=>ah.mem hw)
 ·
  try simp only[Z0,Z1,Z2,Z3,Z4,Z5,Z6,Z7,Z8,Z9]at h0
  refine sj ?_
  refine mr ?_
  refine mr ?_
  refine sk ?_
  refine aO ?_
  refine aP ?_
  refine aP ?_
  have dJ:fU (lx a)=some q:=by rw[←aH,List.take_of_length_le (by omega)]
  refine aZ ?_
  refine ag (aE rfl) ?_
  refine fH (cE rfl trivial) ?_
  refine ag (iq rfl) ?_
  refine aY ?_
  refine aO ?_
  refine au rfl (fun h4=> ?_) (fun h4=> ?_)
  ·
   try simp only[Z0,Z1,Z2,Z3,Z4,Z5,Z6,Z7,Z8,Z9]at h4
   refine aP ?_
   refine aZ ?_
   refine ag (bp rfl) ?_
   refine ag (bp rfl) ?_
   refine aY ?_
   refine aO ?_
   refine eK ?_
   refine fm ?_
   refine aq (.inl rfl) (bq rfl (al rfl) (al rfl)) (fun w1 hw=> ?_)
   exact⟨Sv.none,by rw[(Md dJ h4).2];rfl,trivial,by rw[(Md dJ h4).1];exact(ah.mem hw:Mem w [] _).dZ ax 19⟩
  ·
   try simp only[Z0,Z1,Z2,Z3,Z4,Z5,Z6,Z7,Z8,Z9]at h4
   refine gf ?_
   refine aO ?_
   refine aP ?_
   refine aZ ?_
   refine ag (aE rfl) ?_
   refine ag (bp rfl) ?_
   refine ag (bp rfl) ?_
   refine aY ?_
   refine aO ?_
   refine eK ?_
   refine aq (.inl rfl) (bq rfl (al rfl) (al rfl)) (fun w1 hw=> ?_)
   exact⟨t,by rw[(Gx dJ h4).2],trivial,by rw[(Gx dJ h4).1];exact hw⟩
instance Zf{w0:World}{L:List ai}{a:Sl (Sl UInt8)}[ha:aW w0 L a]:cn Tryz.prog 101 w0 L [a.sv.val] (Sv) (fun zz=> .tuple #[zz.val, .int .i64 (jh (lx a))]) (fun zz=>own ax 19 zz (iD (lx a))::L) (fun zz=>True) (a.xs.length≤1000∧ ∀x∈a.xs,x.xs.length≤100000):=⟨fun hp w hw=>(Y9 w a (ha.h w hw) hp).mono fun e w' ⟨x,h1,h2,h3⟩=>⟨x,h1,h2,hw.call h3⟩⟩
open Go.aA Go.Kb
open Go.aA Go.Kb
theorem Zg(w:World)(t:Sv)(ts:List Rt)(ids:Int)(room:Int)(ht:bQ ax 19 (hp w) t ts):Calls Tryz.prog 76 #[t.val, .int .i64 ids, .int .i64 room] w fun e w'=> ∃zz:Sl (Sl UInt8),e= .returned (.tuple #[zz.sv.val, .int .i64 (jv ts ids room)])∧(lx zz=ka ts ids room)∧Mem w [Deep.cx zz] w':=by
 have Db:Gv w t ax 19 ts:=⟨ht⟩
 refine ba (args:=[_,_,_]) Tryz.func76 rfl Tryz.ntmps76 rfl ?_
 change Cw _ _ _ _ _ [(0,t.val),(1, .int .i64 ids),(2, .int .i64 room)] []
 refine aP ?_
 refine aZ ?_
 refine ag (bp rfl) ?_
 refine ag (bp rfl) ?_
 refine aY ?_
 refine aO ?_
 refine aP ?_
 refine aZ ?_
 refine ag (aE rfl) ?_
 refine ag (aE rfl) ?_
 refine fH (cE rfl trivial) ?_
 refine ag (bp rfl) ?_
 refine aY ?_
 refine aO ?_
 refine aP ?_
 refine aP ?_
 refine aZ ?_
 refine ag (aE rfl) ?_
 refine ag (ck rfl rfl rfl) ?_
 refine ag (aE rfl) ?_
 refine bM rfl rfl rfl (fun hg=>(Ry.yl (aE rfl))) ?_
 refine bM rfl rfl rfl (fun hg=>cE (dy (aG hg rfl) gB) trivial) ?_
 refine bM rfl rfl rfl (fun hg=>(Ry.yl (iq (aG hg rfl)))) ?_
 refine ag (mY rfl rfl rfl) ?_
 refine aY ?_
 refine aO ?_
 refine au rfl (fun h0=> ?_) (fun h0=> ?_)
 ·
  try simp only[Z0,Z1,Z2,Z3,Z4,Z5,Z6,Z7,Z8,Z9]at h0
  refine aP ?_
  refine aZ ?_
  refine ag (bp rfl) ?_
  refine ag (bp rfl) ?_
  refine aY ?_
  refine aO ?_
  refine eK ?_
  refine fm ?_
  refine aq (.inl rfl) (bq rfl (al rfl) (al rfl)) (fun w1 hw=> ?_)
  exact⟨⟨Sv.none,[]⟩,by rw[(Mh h0).1];rfl,(Mh h0).2.symm,Mem.BE (enc:=ca) (c:=1) (ah.mem hw)⟩
 ·
  try simp only[Z0,Z1,Z2,Z3,Z4,Z5,Z6,Z7,Z8,Z9]at h0
  obtain⟨Dv,HJ⟩:=h0
  have hm:=CP Dv
  obtain⟨k,hk⟩: ∃k:Nat,ids=k:=⟨ids.toNat,by omega⟩
  obtain⟨n,hn⟩: ∃n:Nat,room/20=n:=⟨(room/20).toNat,by omega⟩
  have oY:ids*(room/20)=((k*n:Nat):Int):=by rw[hk,hn,Int.natCast_mul]
  have ek:ids.toNat=k:=by omega
  have en:(room/20).toNat=n:=by omega
  refine gf ?_
  refine aO ?_
  refine aP ?_
  refine aP ?_
  refine aZ ?_
  refine ag (aE rfl) ?_
  refine ag (kC rfl) ?_
  refine ag (aE rfl) ?_
  refine ag (ck rfl rfl rfl) ?_
  refine aY ?_
  refine aO ?_
  refine au rfl (fun h1=> ?_) (fun h1=> ?_)
  ·
   try simp only[Z0,Z1,Z2,Z3,Z4,Z5,Z6,Z7,Z8,Z9]at h1
   refine aP ?_
   refine aZ ?_
   refine ag (bp rfl) ?_
   refine ag (bp rfl) ?_
   refine aY ?_
   refine aO ?_
   refine eK ?_
   refine fm ?_
   refine aq (.inl rfl) (bq rfl (al rfl) (al rfl)) (fun w1 hw=> ?_)
   exact⟨⟨Sv.none,[]⟩,by rw[(Mi Dv HJ h1).1];rfl,(Mi Dv HJ h1).2.symm,Mem.BE (enc:=ca) (c:=1) (ah.mem hw)⟩
  ·
   try simp only[Z0,Z1,Z2,Z3,Z4,Z5,Z6,Z7,Z8,Z9]at h1
   have hE:=Gy Dv HJ h1
   rw[ek,en]at hE
   have xG:ts.length≤k*n:=by omega
   have hl:=ht.bd
   refine gf ?_
   refine aO ?_
   refine aP ?_
   refine aZ ?_
   refine ag (aE rfl) ?_
   refine RG (τ:=UInt8) (n:=k) (cap:=k) rfl rfl (by omega) (by omega) (by omega) (by omega) (by omega) fun dB Zh=> ?_
   refine ag (bp rfl) ?_
   refine aY ?_
   refine aO ?_
   refine aP ?_
   refine aP ?_
   refine aZ ?_
   refine ag (aE rfl) ?_
   refine ag (kC rfl) ?_
   refine ag (aE rfl) ?_
   refine aY ?_
   refine aO ?_
   refine lR ?_
   refine cc (X:=Nat×Sl (Sl UInt8)) (fun zz=>[(31, .int .i64 (zz.1:Nat)),(9,zz.2.sv.val),(2, .int .i64 room),(29,t.val),(30, .int .i64 (ts.length:Nat))]) (fun zz=>[Deep.cx zz.2]) (fun zz=>zz.1≤ts.length∧lx zz.2=kN (ts.take zz.1) k n) (fun zz=>ts.length -zz.1) (0,dB) ⟨by first|omega|(simp only[];omega),by rw[UF];show List.map _ _=_;rw[Zh];simp⟩ (Sub.cons rfl (Sub.cons rfl (Sub.cons rfl (Sub.cons rfl (Sub.cons rfl (Sub.nil _)))))) (fun w hw=>ah.mem hw) ?_
   rintro⟨i,a⟩ ⟨bj,aH⟩
   dsimp only
   simp only at bj aH
   refine aP ?_
   refine aZ ?_
   refine ag (ck rfl rfl rfl) ?_
   refine aY ?_
   refine aO ?_
   refine aP ?_
   refine au rfl (fun h2=> ?_) (fun h2=> ?_)
   ·
    try simp only[Z0,Z1,Z2,Z3,Z4,Z5,Z6,Z7,Z8,Z9]at h2
    refine gf ?_
    refine aO ?_
    refine aP ?_
    refine lR ?_
    refine aP ?_
    refine aZ ?_
    refine ag (aE rfl) ?_
    obtain⟨vZ,HK⟩:=get_some (xs:=ts) (i:=i) (by omega)
    refine ag (bk rfl rfl i rfl (by omega)) ?_
    refine ag (gR rfl i HK rfl) ?_
    refine bH fun oq=> ?_
    refine ag (bp rfl) ?_
    refine rb rfl rfl ?_
    refine aY ?_
    refine aO ?_
    refine aP ?_
    refine aZ ?_
    refine ag (aE rfl) ?_
    refine ag (aE rfl) ?_
    refine ag (oB rfl rfl (by omega) (by omega)) ?_
    refine ag (oB rfl rfl (by omega) (by omega)) ?_
    refine ag (bp rfl) ?_
    refine aY ?_
    refine aO ?_
    have bu:i/n<k:=Nat.div_lt_of_lt_mul (by rw[Nat.mul_comm];omega)
    have HL:i/n<a.xs.length:=by rw[←vc,aH,tX];exact bu
    obtain⟨x,hx⟩:=get_some (xs:=a.xs) (i:=i/n) HL
    have ex:(lx a)[i/n]? =some x.xs:=by simp[lx,hx]
    have yj:((i:Nat):Int)/(room/20)=((i/n:Nat):Int):=by rw[hn];exact(Int.natCast_ediv i n).symm
    have Cg:x.xs.length≤240:=by
     rw[aH,kN,List.getElem?_map]at ex
     obtain⟨j,_,hj⟩:=Option.map_eq_some_iff.1 ex
     have:=Gr (ts.take i) n j
     rw[hj]at this;omega
    refine rl (own ca 1 a.sv a.xs::own aN 1 x.sv x.xs::ar oq (ax vZ) 68::(a.xs.eraseIdx (i/n)).map Deep.cx) (fun w hw=>(Tr.RH (B:=[ar oq (ax vZ) 68]) hx).mem hw) ?_
    refine Jo 9 [7] [own ca 1 a.sv a.xs,ar oq (ax vZ) 68] (fun w hw=>ah.mem hw) (by kernel_rfl) (by kernel_rfl) ?_
    simp only[List.take_succ_cons,List.take_zero]
    refine bf (aE rfl) ?_
    refine bf (aE rfl) ?_
    refine bf (aE rfl) ?_
    refine bf (aE rfl) ?_
    refine bf (bk rfl rfl (i/n) yj HL) ?_
    refine bf (bP (j:=0) rfl (i/n) hx rfl (by decide)) ?_
    have Zi:Mb x _:=⟨List.mem_of_getElem? hx⟩
    refine bf (eJ rfl) ?_
    refine Q0 ?_
    refine bf (bk rfl rfl (i/n) yj HL) ?_
    refine tm ?_ (fun _ hw=>ah.mem hw)
    refine Ru rfl rfl (by omega) (fun _ w hw=>ah.mem hw) fun nH Hc=> ?_
    refine tn ?_
    simp only[List.drop_succ_cons,List.drop_zero]
    refine BH (k:=i/n) ⟨nH,x.xs++eP vZ⟩ (by kernel_rfl) rfl rfl rfl hx ?_
    refine aY ?_
    refine pq ?_
    refine aO ?_
    refine aZ ?_
    refine ag (qf rfl rfl (by omega)) ?_
    refine ag (aE rfl) ?_
    refine aY ?_
    exact bA (x:=(i,a)) (i+1,⟨a.sv,a.xs.set (i/n) ⟨nH,x.xs++eP vZ⟩⟩) ⟨by first|omega|(simp only[];omega),by rw[UJ,UE (by first|omega|(simp only[];omega)) HK (by rw[←aH];exact ex),←aH];rfl⟩ (by first|omega|(simp only[];omega)) (Sub.cons rfl (Sub.cons rfl (Sub.cons rfl (Sub.cons rfl (Sub.cons rfl (Sub.nil _)))))) (fun w hw=>ah.mem ((Tr.RI (B:=[ar oq (ax vZ) 68]) (enc:=aN) (c:=1) (by rw[←vc,aH,tX];exact bu)).mem hw))
   ·
    try simp only[Z0,Z1,Z2,Z3,Z4,Z5,Z6,Z7,Z8,Z9]at h2
    refine sj ?_
    refine mr ?_
    refine mr ?_
    refine sk ?_
    refine aO ?_
    refine aP ?_
    refine aZ ?_
    refine ag (aE rfl) ?_
    refine ag (bp rfl) ?_
    refine ag (bp rfl) ?_
    refine aY ?_
    refine aO ?_
    refine eK ?_
    refine aq (.inl rfl) (bq rfl (al rfl) (al rfl)) (fun w1 hw=> ?_)
    exact⟨a,by rw[hE.1],by rw[aH,hE.2,List.take_of_length_le (by omega)],hw⟩
instance ajG{w0:World}{L:List ai}{t:Sv}{ts:List Rt}{ids:Int}{room:Int}[ht:df w0 L ax 19 t ts]:cn Tryz.prog 76 w0 L [t.val, .int .i64 ids, .int .i64 room] (Sl (Sl UInt8)) (fun zz=> .tuple #[zz.sv.val, .int .i64 (jv ts ids room)]) (fun zz=>Deep.cx zz::L) (fun zz=>lx zz=ka ts ids room) (True):=⟨fun hp w hw=>(Zg w t ts ids room (ht.h w hw)).mono fun e w' ⟨x,h1,h2,h3⟩=>⟨x,h1,h2,hw.call h3⟩⟩
open Go.aA Go.Kb
open Go.RowKit
instance:fk Tryz.prog 54 (.agg (bU mf)):=⟨by kernel_rfl⟩
theorem HM(v:bO)(t:Sl Rt)(w:World):(Instr.build 54 #[(0, .agg (bI v)),(1,t.sv.val)]).run Tryz.prog w= .ok (.agg (bU ⟨v,t⟩)) w:=by
 obtain⟨s,xs⟩:=t
 obtain⟨⟨a1,a2,⟨a3,a4⟩,a5,a6,⟨a7,a8⟩⟩,⟨a9,Zj⟩,Zk,Zl⟩:=v
 unfold bU
 obtain⟨e,b,o,l,c,p⟩:=s
 obtain⟨e3,b3,o3,l3,c3,p3⟩:=a3
 obtain⟨e7,b7,o7,l7,c7,p7⟩:=a7
 obtain⟨e9,b9,o9,l9,c9,p9⟩:=a9
 cases e<;>cases e3<;>cases e7<;>cases e9<;>kernel_rfl
theorem Zm(w:World)(b:Int)(p:Int)(s:Int):Calls Tryz.prog 58 #[.int .i64 b, .int .i64 p, .int .i64 s] w fun e w'=>e= .returned (.int .i64 (rP b p s))∧Mem w [] w':=by
 have HH:=Vh b p
 have M0:=MP s
 refine ba (args:=[_,_,_]) Tryz.func58 rfl Tryz.ntmps58 rfl ?_
 change Cw _ _ _ _ _ [(0, .int .i64 b),(1, .int .i64 p),(2, .int .i64 s)] []
 refine Gc ?_
 refine Gs ?_
 refine Gc ?_
 iterate 3 refine Gs ?_
 refine ag (oB rfl rfl (by omega) (by omega)) ?_
 iterate 2 refine Gs ?_
 refine ag (Er rfl rfl) ?_
 refine Gs ?_
 refine Gc ?_
 refine aq (.inl rfl) (aJ rfl (al rfl)) (fun w1 hw=> ?_)
 exact⟨congrArg (fun b=>Ending.returned (Value.int .i64 b)) ((by rw[rP])),ah.mem hw⟩
instance ajH{w0:World}{L:List ai}{b:Int}{p:Int}{s:Int}:cI Tryz.prog 58 w0 L [.int .i64 b, .int .i64 p, .int .i64 s] (.int .i64 (rP b p s)) (True):=⟨fun hp w hw=>Zm w b p s⟩
theorem Zn(w:World)(b:Int)(p:Int)(s:Int):Calls Tryz.prog 24 #[.int .i64 b, .int .i64 p, .int .i64 s] w fun e w'=>e= .returned (.int .i64 (sN b p s))∧Mem w [] w':=by
 refine ba (args:=[_,_,_]) Tryz.func24 rfl Tryz.ntmps24 rfl ?_
 change Cw _ _ _ _ _ [(0, .int .i64 b),(1, .int .i64 p),(2, .int .i64 s)] []
 refine Gc ?_
 refine Gs ?_
 refine Gc ?_
 iterate 8 refine Gs ?_
 refine Gc ?_
 refine aq (.inl rfl) (aJ rfl (al rfl)) (fun w1 hw=> ?_)
 exact⟨congrArg (fun b=>Ending.returned (Value.int .i64 b)) ((by rw[sN])),ah.mem hw⟩
instance ajI{w0:World}{L:List ai}{b:Int}{p:Int}{s:Int}:cI Tryz.prog 24 w0 L [.int .i64 b, .int .i64 p, .int .i64 s] (.int .i64 (sN b p s)) (True):=⟨fun hp w hw=>Zn w b p s⟩
theorem Zo(w:World)(c:Cp)(hc:Deep.bb (hp w) c):Calls Tryz.prog 72 #[.agg (aD c)] w fun e w'=>e= .returned (.int .i64 (dh (cv c)))∧Mem w [] w':=by
 have ke:cm w c:=⟨hc⟩
 refine ba (args:=[_]) Tryz.func72 rfl Tryz.ntmps72 rfl ?_
 change Cw _ _ _ _ _ [(0, .agg (aD c))] []
 refine Gc ?_
 refine bY rfl fun b1=> ?_
 refine Gs ?_
 refine Gc ?_
 iterate 9 refine Gs ?_
 refine Gc ?_
 refine aq (.inl rfl) (aJ rfl (al rfl)) (fun w1 hw=> ?_)
 exact⟨congrArg (fun b=>Ending.returned (Value.int .i64 b)) ((by simp only[dh,cv,fB])),ah.mem hw⟩
instance ajJ{w0:World}{L:List ai}{c:Cp}[hc:aW w0 L c]:cI Tryz.prog 72 w0 L [.agg (aD c)] (.int .i64 (dh (cv c))) (True):=⟨fun hp w hw=>Zo w c (hc.h w hw)⟩
theorem Zp(w:World)(c:Cp)(hc:Deep.bb (hp w) c):Calls Tryz.prog 70 #[.agg (aD c)] w fun e w'=>e= .returned (.int .i64 (fa (cv c)))∧Mem w [] w':=by
 have ke:cm w c:=⟨hc⟩
 refine ba (args:=[_]) Tryz.func70 rfl Tryz.ntmps70 rfl ?_
 change Cw _ _ _ _ _ [(0, .agg (aD c))] []
 refine Gc ?_
 refine bY rfl fun b1=> ?_
 refine Gs ?_
 refine Gc ?_
 iterate 9 refine Gs ?_
 refine Gc ?_
 refine aq (.inl rfl) (aJ rfl (al rfl)) (fun w1 hw=> ?_)
 exact⟨congrArg (fun b=>Ending.returned (Value.int .i64 b)) ((by simp only[fa,cv,fB])),ah.mem hw⟩
instance ajK{w0:World}{L:List ai}{c:Cp}[hc:aW w0 L c]:cI Tryz.prog 70 w0 L [.agg (aD c)] (.int .i64 (fa (cv c))) (True):=⟨fun hp w hw=>Zp w c (hc.h w hw)⟩
open Go.aA Go.Kb
open Go.RowKit
theorem Zq(w:World)(v:bO)(id:Nat)(hv:Deep.bb (hp w) v)(bc:aV (cv v.ae)=true∧id<v.at_.xs.length∧ ∀y∈v.at_.xs,0≤y∧y≤65535∧(y≠0→jX (cv v.ae) (y -1)=true)):Calls Tryz.prog 100 #[.agg (bI v), .int .i64 (id:Nat)] w fun e w'=> ∃zz:Sv,e= .returned (zz.val)∧(True)∧Mem w [own aN 1 zz (eo (cv v.ae) (v.at_.xs.getD id 0))] w':=by
 have z8:cm w v:=⟨hv⟩
 obtain⟨hk,iB,ij⟩:=bc
 obtain⟨y,hy⟩:=get_some (xs:=v.at_.xs) (i:=id) iB
 have nG:v.at_.xs.getD id 0=y:=ob hy
 obtain⟨mv,C4,bX⟩:=ij y (List.mem_of_getElem? hy)
 refine ba (args:=[_,_]) Tryz.func100 rfl Tryz.ntmps100 rfl ?_
 change Cw _ _ _ _ _ [(0, .agg (bI v)),(1, .int .i64 (id:Nat))] []
 refine Gc ?_
 refine bY rfl fun b2=> ?_
 refine Gs ?_
 refine Gc ?_
 iterate 3 refine Gs ?_
 refine ag (bk rfl rfl id rfl (by omega)) ?_
 refine ag (bP (j:=0) rfl id hy rfl (by decide)) ?_
 iterate 2 refine Gs ?_
 refine Gc ?_
 iterate 2 refine Gs ?_
 refine Gc ?_
 refine au rfl (fun h0=> ?_) (fun h0=> ?_)
 ·
  replace h0:=bz h0
  have hE:(eo (cv v.ae) (v.at_.xs.getD id 0))=[]:=by rw[nG,eo,if_pos (by omega)]
  refine Gc ?_
  refine Gs ?_
  refine Gc ?_
  refine aq (.inl rfl) (aJ rfl (al rfl)) (fun w1 hw=> ?_)
  exact⟨Sv.none,rfl,trivial,by rw[hE];exact Mem.dZ aN 1 (ah.mem hw:Mem w [] _)⟩
 ·
  replace h0:=bz h0
  have h1y:1≤y:=by omega
  obtain⟨g1,g2,g3⟩:=lz.1 (bX (by omega))
  have dz:=fB v.ae.blocks.xs
  have ia:=jW.1 (eZ.1 hk).1
  simp only[cv,dz]at ia
  have Aa:0≤((y -1)/v.ae.pages):=Int.ediv_nonneg (by omega) (by omega)
  have mg:0≤((y -1)%v.ae.pages):=Int.emod_nonneg _ (by omega)
  have nE:((y -1)%v.ae.pages)<v.ae.pages:=Int.emod_lt_of_pos _ (by omega)
  have mh:=vr (c:=v.ae) (b:=((y -1)/v.ae.pages))
  change 2≤((y -1)/v.ae.pages)at g1
  change((y -1)/v.ae.pages)<((gF v.ae.blocks.xs).length:Int)at g2
  rw[dz]at g2
  obtain⟨B,hB⟩:=get_some (xs:=v.ae.blocks.xs) (i:=((y -1)/v.ae.pages).toNat) (by omega)
  have qN:Mb B v.ae.blocks:=⟨List.mem_of_getElem? hB⟩
  have eN:bv B=aj (cv v.ae) ((y -1)/v.ae.pages):=by rw[←mh];simp[List.getD,hB]
  have fV:=dV.1 ((eZ.1 hk).2.2.2.2 (bv B) (List.mem_of_getElem? (jn hB)))
  have jj:=jF B.pages.xs
  have vN:(B.pages.xs.length:Int)=v.ae.pages:=by have:=fV.1;simp only[bv,cv,jj]at this;exact this
  obtain⟨z,hz⟩:=get_some (xs:=B.pages.xs) (i:=((y -1)%v.ae.pages).toNat) (by omega)
  have ue:Mb z B.pages:=⟨List.mem_of_getElem? hz⟩
  have oS:bF (cv v.ae) (y -1)=z.xs:=by
   show(aj (cv v.ae) ((y -1)/v.ae.pages)).pages.getD ((y -1)%v.ae.pages).toNat []=z.xs
   rw[←eN]
   simp[bv,List.getD,k7 hz]
  have hI:(eo (cv v.ae) (v.at_.xs.getD id 0))=iT (cv v.ae) y:=by rw[nG,eo,if_neg (by omega)]
  refine Gc ?_
  refine rv [18,22,23,2022,4018] [[],[],[],[],[],[],[],[],[],[],[],[],[],[],[],[],[],[],[],[18],[18],[18],[],[18,22],[18,22,23]] [0,1,2,3,4,5,6,7,8,9,10,11,12,13,14,15,16,17,18,19,20,21,22,23,24] [ar b2 (bI v) 29] [(22,lW Tryz.prog 110)] (by kernel_rfl) (fun _ hw=>ah.mem hw) (by kernel_rfl) (by kernel_rfl) ?_
  refine an rfl (aI (o':=0) rfl rfl) ?_
  refine an rfl (aI (o':=2) rfl rfl) ?_
  refine an rfl (bJ rfl) ?_
  refine an rfl (aE rfl) ?_
  refine an rfl (aI (o':=0) rfl rfl) ?_
  refine an rfl (aI (o':=0) rfl rfl) ?_
  refine an rfl (bJ rfl) ?_
  refine an rfl (oB rfl rfl (by omega) (by omega)) ?_
  refine an rfl (bk rfl rfl (((y -1)/v.ae.pages).toNat) (by omega) (by omega)) ?_
  refine an rfl (aI rfl rfl) ?_
  refine an rfl (bP (j:=0) rfl (((y -1)/v.ae.pages).toNat) hB rfl (by decide)) ?_
  refine an rfl (aE rfl) ?_
  refine an rfl (aI (o':=0) rfl rfl) ?_
  refine an rfl (aI (o':=0) rfl rfl) ?_
  refine an rfl (bJ rfl) ?_
  refine an rfl (yR rfl rfl (by omega) (by omega)) ?_
  refine an rfl (bk rfl rfl (((y -1)%v.ae.pages).toNat) (by omega) (by omega)) ?_
  refine an rfl (bP (j:=0) rfl (((y -1)%v.ae.pages).toNat) hz rfl (by decide)) ?_
  refine tH rfl rfl trivial (fun e x w hw=>ah.mem hw) (Cert.one (i:=22) rfl rfl rfl kZ (Cert.none rfl)) fun Ap Nz=>⟨fun _ hw=>ah.mem hw,?_⟩
  have e1:Ap.body.xs=(cy z.xs).1.body:=congrArg PV.body Nz
  refine an rfl (aE rfl) ?_
  refine an rfl (aU (v:= .agg (cN Ap)) rfl rfl) ?_
  refine an rfl (aU (v:= .int .i64 ((cy z.xs).2)) rfl rfl) ?_
  refine pA (m:=lW Tryz.prog 110) rfl rfl kZ (Cert.none rfl) fun b6=> ?_
  change Ln _ _ _ _ _ _ _ _ (cD _ _ (.pointer (some ⟨b6,0,none⟩))) (ar b6 (cN nt) 110::_) _
  refine dN rfl (pz rfl rfl ⟨fun _ hw=>ah.mem hw,?_⟩)
  refine an rfl (bp rfl) ?_
  refine Gc ?_
  iterate 2 refine Gs ?_
  refine Gc ?_
  refine au rfl (fun h1=> ?_) (fun h1=> ?_)
  ·
   replace h1:=bz h1
   have hE:(eo (cv v.ae) (v.at_.xs.getD id 0))=[]:=by rw[hI,iT,oS,if_neg h1]
   refine Gc ?_
   refine Gs ?_
   refine Gc ?_
   refine aq (.inl rfl) (aJ rfl (al rfl)) (fun w1 hw=> ?_)
   exact⟨Sv.none,rfl,trivial,by rw[hE];exact Mem.dZ aN 1 (ah.mem hw:Mem w [] _)⟩
  ·
   replace h1:=bz h1
   have yk:(cy z.xs).2=0:=h1
   have hE:(eo (cv v.ae) (v.at_.xs.getD id 0))=Ap.body.xs:=by rw[hI,iT,oS,if_pos yk,e1]
   refine Gc ?_
   iterate 3 refine Gs ?_
   refine Gc ?_
   refine aq (.inl rfl) (aJ rfl (al rfl)) (fun w1 hw=> ?_)
   exact⟨Ap.body.sv,rfl,trivial,by rw[hE];exact ah.mem hw⟩
instance ajL{w0:World}{L:List ai}{v:bO}{id:Nat}[hv:aW w0 L v]:cn Tryz.prog 100 w0 L [.agg (bI v), .int .i64 (id:Nat)] (Sv) (fun zz=>zz.val) (fun zz=>own aN 1 zz (eo (cv v.ae) (v.at_.xs.getD id 0))::L) (fun zz=>True) (aV (cv v.ae)=true∧id<v.at_.xs.length∧ ∀y∈v.at_.xs,0≤y∧y≤65535∧(y≠0→jX (cv v.ae) (y -1)=true)):=⟨fun hp w hw=>(Zq w v id (hv.h w hw) hp).mono fun e w' ⟨x,h1,h2,h3⟩=>⟨x,h1,h2,hw.call h3⟩⟩
open Go.aA Go.Kb
open Go.RowKit
theorem Zr(w:World)(s:Sl (Sl UInt8))(hs:Deep.bb (hp w) s)(bc:s.xs.length≤1000000):Calls Tryz.prog 109 #[s.sv.val] w fun e w'=> ∃zz:Sv,e= .returned (zz.val)∧(True)∧Mem w [own (ca (τ:=UInt8)) 1 zz s.xs] w':=by
 have vH:cm w s:=⟨hs⟩
 refine ba (args:=[_]) Tryz.func109 rfl Tryz.ntmps109 rfl ?_
 change Cw _ _ _ _ _ [(0,s.sv.val)] []
 refine Gc ?_
 refine Gs ?_
 refine Gc ?_
 refine Gs ?_
 refine ag (sq Tryz.underlying46 rfl) ?_
 refine Gc ?_
 refine au rfl (fun h0=> ?_) (fun h0=> ?_)
 ·
  replace h0:=bz h0
  have e0:s.xs=[]:=List.length_eq_zero_iff.1 (by have:=hs.1.ok.nil h0;have:=hs.1.len;omega)
  refine Gc ?_
  refine Gs ?_
  refine Gc ?_
  refine aq (.inl rfl) (aJ rfl (al rfl)) (fun w1 hw=> ?_)
  exact⟨Sv.none,rfl,trivial,by rw[e0];exact(ah.mem hw:Mem w [] _).dZ (ca (τ:=UInt8)) 1⟩
 ·
  replace h0:=bz h0
  refine Gc ?_
  refine tC (ca (τ:=UInt8)) fun b5=> ?_
  refine Gs ?_
  refine my (s:=⟨false,b5,0,0,0,none⟩) (enc:=(ca (τ:=UInt8))) (ys:=s.xs) rfl rfl (by decide) (fun w hw=>kW (s:=s.sv) Tryz.underlying46 (by decide) ((inferInstance:df _ _ (ca (τ:=UInt8)) 1 s.sv s.xs).h w hw)) (by simp only[List.length_nil];omega) (by simp only[List.length_nil];omega) fun s7 vI ub=> ?_
  refine Gs ?_
  refine Gc ?_
  refine aq (.inl rfl) (aJ rfl (al rfl)) (fun w1 hw=> ?_)
  exact⟨s7,rfl,trivial,by rw[List.nil_append]at hw;exact ah.mem hw⟩
instance ajM{w0:World}{L:List ai}{s:Sl (Sl UInt8)}[hs:aW w0 L s]:cn Tryz.prog 109 w0 L [s.sv.val] (Sv) (fun zz=>zz.val) (fun zz=>own (ca (τ:=UInt8)) 1 zz s.xs::L) (fun zz=>True) (s.xs.length≤1000000):=⟨fun hp w hw=>(Zr w s (hs.h w hw) hp).mono fun e w' ⟨x,h1,h2,h3⟩=>⟨x,h1,h2,hw.call h3⟩⟩
theorem Zs(w:World)(c:Cp)(hc:Deep.bb (hp w) c)(bc:dW c):Calls Tryz.prog 71 #[.agg (aD c)] w fun e w'=> ∃zz:Cp,e= .returned (.agg (aD zz))∧(cv zz=cv c)∧Mem w [fz zz] w':=by
 have ke:cm w c:=⟨hc⟩
 obtain⟨kP,je,og⟩:=bc
 refine ba (args:=[_]) Tryz.func71 rfl Tryz.ntmps71 rfl ?_
 change Cw _ _ _ _ _ [(0, .agg (aD c))] []
 refine Gc ?_
 refine bY rfl fun b1=> ?_
 refine bH fun b2=> ?_
 refine Gc ?_
 iterate 2 refine Gs ?_
 refine bo rfl (by omega) fun x9 zZ=> ?_
 refine Gs ?_
 refine eV (cs':=aD (⟨c.pages,c.size,⟨x9,c.blocks.xs⟩,c.ops,c.off,c.aQ⟩:Cp)) rfl rfl (by show 2<6;decide) (by first|rfl|exact Sv.one _) rfl ?_
 refine Gc ?_
 iterate 4 refine Gs ?_
 refine Gc ?_
 refine cc (X:=Nat×List Bk) (fun zz=>[(14, .int .i64 (zz.1:Nat)),(1, .pointer (some ⟨b1,0,none⟩)),(2, .pointer (some ⟨b2,0,none⟩)),(12,x9.val),(13, .int .i64 (c.blocks.xs.length:Nat))]) (fun zz=>[own bN 4 x9 zz.2,ai.all ((zz.2.take zz.1).map fun b:Bk=>fz b.pages),ar b2 (aD gn) 25,ar b1 (aD (⟨c.pages,c.size,⟨x9,zz.2⟩,c.ops,c.off,c.aQ⟩:Cp)) 25]) (fun zz=>zz.1≤c.blocks.xs.length∧zz.2.length=c.blocks.xs.length∧gF zz.2=gF c.blocks.xs∧ ∀j,zz.1≤j→zz.2[j]? =c.blocks.xs[j]?) (fun zz=>c.blocks.xs.length -zz.1) (0,c.blocks.xs) ⟨Nat.zero_le _,rfl,rfl,fun _ _=>rfl⟩ (Sub.cons rfl (Sub.cons rfl (Sub.cons rfl (Sub.cons rfl (Sub.cons rfl (Sub.nil _)))))) (fun w hw=>by
  simp only[List.take_zero,List.map_nil];exact ah.mem (Mem.vo hw)) ?_
 rintro⟨i,zs⟩ ⟨bj,aH,bG,di⟩
 dsimp only
 simp only at bj aH bG di
 refine Gc ?_
 refine Gs ?_
 refine Gc ?_
 refine au rfl (fun h0=> ?_) (fun h0=> ?_)
 ·
  replace h0:=bz h0
  obtain⟨z,hz⟩:=get_some (xs:=zs) (i:=i) (by omega)
  have ue:Mb z c.blocks:=⟨List.mem_of_getElem? (by rw[←di i (Nat.le_refl _)];exact hz)⟩
  have fh:=og z ue.h
  obtain⟨Zt,ajN⟩:=fh
  rw[jF]at Zt
  refine Gc ?_
  refine Gs ?_
  refine ag (bk rfl rfl i rfl (by omega)) ?_
  refine ag (gR rfl i hz rfl) ?_
  refine bH fun b4=> ?_
  iterate 2 refine Gs ?_
  refine Gc ?_
  iterate 2 refine Gs ?_
  refine bo rfl (by omega) fun jy Hl=> ?_
  refine Gs ?_
  refine Gc ?_
  iterate 3 refine Gs ?_
  refine Gc ?_
  refine cc (X:=Nat×List (Sl UInt8)) (fun zz=>[(24, .int .i64 (zz.1:Nat)),(5,jy.val),(1, .pointer (some ⟨b1,0,none⟩)),(2, .pointer (some ⟨b2,0,none⟩)),(3, .int .i64 (i:Nat)),(12,x9.val),(13, .int .i64 (c.blocks.xs.length:Nat)),(14, .int .i64 (i:Nat)),(23, .int .i64 (z.pages.xs.length:Nat))]) (fun zz=>[own (ca (τ:=UInt8)) 1 jy zz.2,ai.all ((zz.2.take zz.1).map fun b:Sl UInt8=>fz b),ar b4 (bN z) 48,own bN 4 x9 zs,ai.all ((zs.take i).map fun b:Bk=>fz b.pages),ar b2 (aD gn) 25,ar b1 (aD (⟨c.pages,c.size,⟨x9,zs⟩,c.ops,c.off,c.aQ⟩:Cp)) 25]) (fun zz=>zz.1≤z.pages.xs.length∧zz.2.length=z.pages.xs.length∧aK zz.2=aK z.pages.xs∧ ∀k,zz.1≤k→zz.2[k]? =z.pages.xs[k]?) (fun zz=>z.pages.xs.length -zz.1) (0,z.pages.xs) ⟨Nat.zero_le _,rfl,rfl,fun _ _=>rfl⟩ (Sub.cons rfl (Sub.cons rfl (Sub.cons rfl (Sub.cons rfl (Sub.cons rfl (Sub.cons rfl (Sub.cons rfl (Sub.cons rfl (Sub.cons rfl (Sub.nil _)))))))))) (fun w hw=>by
   simp only[List.take_zero,List.map_nil];exact ah.mem (Mem.vo hw)) ?_
  rintro⟨j,qs⟩ ⟨iG,dF,jk,lL⟩
  dsimp only
  simp only at iG dF jk lL
  refine Gc ?_
  refine Gs ?_
  refine Gc ?_
  refine au rfl (fun h1=> ?_) (fun h1=> ?_)
  ·
   replace h1:=bz h1
   obtain⟨y,hy⟩:=get_some (xs:=qs) (i:=j) (by omega)
   have HN:z.pages.xs[j]? =some y:=by rw[←lL j (Nat.le_refl _)];exact hy
   have xL:Mb y z.pages:=⟨List.mem_of_getElem? HN⟩
   have xG:=zy (k7 HN)
   have jj:=zA (aK z.pages.xs) (j+1)
   have Zu:y.xs.length≤140737488355328:=by rw[xG]at jj;omega
   refine Gc ?_
   iterate 2 refine Gs ?_
   iterate 2 refine Gi ?_
   refine B2 (s:=jy) (enc:=ca (τ:=UInt8)) (c:=1) (xs:=qs) inferInstance (by omega) fun ajO ajP Zv ajQ=> ?_
   refine Gi ?_
   iterate 4 refine Gs ?_
   refine ag (bk rfl rfl j rfl (by omega)) ?_
   refine ag (bP (j:=0) rfl j hy rfl (by decide)) ?_
   refine bo rfl Zu fun kf uq=> ?_
   obtain⟨vZ,HK⟩:=get_some (xs:=qs) (i:=j) (by omega)
   refine ag (lS (s:=jy) (i:=j) rfl rfl rfl Zv (by omega)) ?_
   refine BH (s:=jy) (xs:=qs) (k:=j) (a:=y) (⟨kf,y.xs⟩:Sl UInt8) (by kernel_rfl) rfl rfl rfl hy ?_
   refine Gc ?_
   iterate 2 refine Gs ?_
   refine Gi ?_
   exact bA (x:=(j,qs)) (j+1,qs.set j (⟨kf,y.xs⟩:Sl UInt8)) ⟨by first|omega|(simp only[];omega),by rw[List.length_set];exact dF,by rw[aK,List.map_set,←aK,jk];exact tL (z:=y.xs) (k7 HN),fun k hk=>by rw[List.getElem?_set_ne (by first|omega|(simp only[];omega))];exact lL k (by first|omega|(simp only[];omega))⟩ (by simp only;omega) (Sub.cons rfl (Sub.cons rfl (Sub.cons rfl (Sub.cons rfl (Sub.cons rfl (Sub.cons rfl (Sub.cons rfl (Sub.cons rfl (Sub.cons rfl (Sub.nil _)))))))))) (fun w hw=>by
    have h1:=Fv (a:=(⟨kf,y.xs⟩:Sl UInt8)) (ah.mem hw:Mem _ (own aN 1 kf y.xs::[own (ca (τ:=UInt8)) 1 jy (qs.set j (⟨kf,y.xs⟩:Sl UInt8)),ai.all ((qs.take j).map fun b:Sl UInt8=>fz b),ar b4 (bN z) 48,own bN 4 x9 zs,ai.all ((zs.take i).map fun b:Bk=>fz b.pages),ar b2 (aD gn) 25,ar b1 (aD (⟨c.pages,c.size,⟨x9,zs⟩,c.ops,c.off,c.aQ⟩:Cp)) 25]) _)
    have h3:=Mem.xe (ah.mem h1:Mem _ (fz (⟨kf,y.xs⟩:Sl UInt8)::ai.all ((qs.take j).map fun b:Sl UInt8=>fz b)::[own (ca (τ:=UInt8)) 1 jy (qs.set j (⟨kf,y.xs⟩:Sl UInt8)),ar b4 (bN z) 48,own bN 4 x9 zs,ai.all ((zs.take i).map fun b:Bk=>fz b.pages),ar b2 (aD gn) 25,ar b1 (aD (⟨c.pages,c.size,⟨x9,zs⟩,c.ops,c.off,c.aQ⟩:Cp)) 25]) _)
    rw[FE (z':=(⟨kf,y.xs⟩:Sl UInt8)) hy]at h3
    exact ah.mem h3)
  ·
   replace h1:=bz h1
   obtain rfl:j=qs.length:=by omega
   rw[List.take_of_length_le (Nat.le_refl _)]at*
   iterate 5 refine Gi ?_
   refine B2 (s:=x9) (enc:=bN) (c:=4) (xs:=zs) inferInstance (by omega) fun hn9 hs9 Zw hl9=> ?_
   refine Gi ?_
   iterate 4 refine Gs ?_
   obtain⟨Zx,Zy⟩:=get_some (xs:=zs) (i:=i) (by omega)
   refine ag (lS (s:=x9) (i:=i) rfl rfl rfl Zw (by omega)) ?_
   refine ag (aI rfl rfl) ?_
   refine kX (n:=1) (k:=i) (j:=0) (a:=z) (a':=({z with pages:=⟨jy,qs⟩}:Bk)) (xs:=zs) (enc:=bN) (c:=4) (v:=jy.val) (by kernel_rfl) rfl rfl rfl hz (by rw[Sv.jm];simp[Sv.one]) (by rw[Sv.jm];rfl) (by decide) (by rw[Sv.jm];rfl) ?_
   refine Gc ?_
   iterate 2 refine Gs ?_
   refine Gi ?_
   exact bA (x:=(i,zs)) (i+1,zs.set i ({z with pages:=⟨jy,qs⟩}:Bk)) ⟨by first|omega|(simp only[];omega),by rw[List.length_set];exact aH,by rw[vq,←bG,show bv ({z with pages:=⟨jy,qs⟩}:Bk)=bv z from by rw[bv,bv,jk],←vq,tL hz],fun j hj=>by rw[List.getElem?_set_ne (by first|omega|(simp only[];omega))];exact di j (by first|omega|(simp only[];omega))⟩ (by simp only;omega) (Sub.cons rfl (Sub.cons rfl (Sub.cons rfl (Sub.cons rfl (Sub.cons rfl (Sub.nil _)))))) (fun w hw=>by
    have h1:=FD (ah.mem hw:Mem _ (own (ca (τ:=UInt8)) 1 jy qs::ai.all (qs.map fun b:Sl UInt8=>fz b)::[own bN 4 x9 (zs.set i ({z with pages:=⟨jy,qs⟩}:Bk)),ai.all ((zs.take i).map fun b:Bk=>fz b.pages),ar b2 (aD gn) 25,ar b1 (aD (⟨c.pages,c.size,⟨x9,zs⟩,c.ops,c.off,c.aQ⟩:Cp)) 25]) _)
    have h3:=Mem.xe (ah.mem h1:Mem _ (fz (⟨jy,qs⟩:Sl (Sl UInt8))::ai.all ((zs.take i).map fun b:Bk=>fz b.pages)::[own bN 4 x9 (zs.set i ({z with pages:=⟨jy,qs⟩}:Bk)),ar b2 (aD gn) 25,ar b1 (aD (⟨c.pages,c.size,⟨x9,zs⟩,c.ops,c.off,c.aQ⟩:Cp)) 25]) _)
    rw[KU (z':=({z with pages:=⟨jy,qs⟩}:Bk)) hz]at h3
    exact(ah.mem h3:Mem _ [own bN 4 x9 (zs.set i ({z with pages:=⟨jy,qs⟩}:Bk)),ai.all (((zs.set i ({z with pages:=⟨jy,qs⟩}:Bk)).take (i+1)).map fun b:Bk=>fz b.pages),ar b2 (aD gn) 25,ar b1 (aD (⟨c.pages,c.size,⟨x9,zs⟩,c.ops,c.off,c.aQ⟩:Cp)) 25] _))
 ·
  replace h0:=bz h0
  obtain rfl:i=zs.length:=by omega
  rw[List.take_of_length_le (Nat.le_refl _)]at*
  refine Gc ?_
  refine Gs ?_
  refine ag (Ry.to (v':=c.aQ.sv.val) (bJ rfl) rfl) ?_
  refine bo rfl (by omega) fun qS NU=> ?_
  refine Gs ?_
  refine eV (cs':=aD (⟨c.pages,c.size,⟨x9,zs⟩,c.ops,c.off,⟨qS,c.aQ.xs⟩⟩:Cp)) rfl rfl (by show 5<6;decide) (by first|rfl|exact Sv.one _) rfl ?_
  refine Gc ?_
  iterate 2 refine Gs ?_
  refine Gc ?_
  refine aq (.inl rfl) (aJ rfl (cf rfl)) (fun w1 hw=> ?_)
  exact⟨(⟨c.pages,c.size,⟨x9,zs⟩,c.ops,c.off,⟨qS,c.aQ.xs⟩⟩:Cp),rfl,by simp only[cv,bG],Cd (d:=(⟨c.pages,c.size,⟨x9,zs⟩,c.ops,c.off,⟨qS,c.aQ.xs⟩⟩:Cp)) ((KC (a:=(⟨qS,c.aQ.xs⟩:Sl Ft)) ((KR (ah.mem hw:Mem w (own bN 4 x9 zs::ai.all (zs.map fun b:Bk=>fz b.pages)::[own dn 4 qS c.aQ.xs]) _)).perm (List.Perm.swap _ _ _))).perm (List.Perm.swap _ _ _))⟩
instance ajR{w0:World}{L:List ai}{c:Cp}[hc:aW w0 L c]:cn Tryz.prog 71 w0 L [.agg (aD c)] (Cp) (fun zz=> .agg (aD zz)) (fun zz=>fz zz::L) (fun zz=>cv zz=cv c) (dW c):=⟨fun hp w hw=>(Zs w c (hc.h w hw) hp).mono fun e w' ⟨x,h1,h2,h3⟩=>⟨x,h1,h2,hw.call h3⟩⟩
open Go.aA Go.Kb
open Go.RowKit
theorem Zz(w:World)(c:Cp)(hc:Deep.bb (hp w) c):Calls Tryz.prog 54 #[.agg (aD c)] w fun e w'=> ∃zz:cB×Sl (Sl UInt8),e= .returned (.tuple #[.agg (bU zz.1),zz.2.sv.val, .int .i64 ((c8 (cv c)).2)])∧(bg zz.1=(c8 (cv c)).1∧lx zz.2=jP (cv c))∧Mem w [fz zz.1,fz zz.2] w':=by
 have ke:cm w c:=⟨hc⟩
 refine ba (args:=[_]) Tryz.func54 rfl Tryz.ntmps54 rfl ?_
 change Cw _ _ _ _ _ [(0, .agg (aD c))] []
 refine Gc ?_
 refine bY rfl fun b1=> ?_
 refine bH fun b2=> ?_
 iterate 2 refine Gs ?_
 refine Gc ?_
 iterate 3 refine Gs ?_
 refine Gc ?_
 refine au rfl (fun h0=> ?_) (fun h0=> ?_)
 ·
  replace h0:=bz h0
  have hE:=MK h0
  refine Gc ?_
  refine ag (cS (v:= .agg (bU mf)) rfl (fun w=>by kernel_rfl)) ?_
  iterate 3 refine Gs ?_
  refine Gc ?_
  refine aq (.inl rfl) (tB rfl (cf rfl) (al rfl) (al rfl)) (fun w1 hw=> ?_)
  exact⟨(mf,⟨Sv.none,[]⟩),by rw[hE.1];rfl,⟨by rw[hE.1];rfl,by rw[hE.2];rfl⟩,C1 (xD (ah.mem hw:Mem w [] _))⟩
 ·
  replace h0:=bz h0
  refine Gc ?_
  refine Gs ?_
  refine bo rfl trivial fun aB kv=> ?_
  have ZA:=Lh (cv c)
  rw[Uz]at kv
  have Dw:aB.at_.xs=(bx (cv c)).1.at_:=congrArg VV.at_ kv
  rw[←Dw]at ZA
  have ajS: ∀(L:List ai) [Hd w L aB.at_.sv bK 1 aB.at_.xs],aW w L aB.at_:=fun L q=>⟨fun w h=>⟨q.h w h,fun _ _=>trivial⟩⟩
  have ajT: ∀(L:List ai) [aW w L aB.ae] [aW w L aB.at_],aW w L aB:=fun L p q=>⟨fun w h=>⟨p.h w h,q.h w h⟩⟩
  refine Gs ?_
  refine ag (aU (v:= .agg (bI aB)) rfl rfl) ?_
  refine ag (aU (v:= .int .i64 ((bx (cv c)).2)) rfl rfl) ?_
  refine bH fun b5=> ?_
  iterate 2 refine Gs ?_
  refine Gc ?_
  iterate 2 refine Gs ?_
  refine Gc ?_
  refine au rfl (fun h1=> ?_) (fun h1=> ?_)
  ·
   replace h1:=bz h1
   have hE:=ML h0 h1
   refine Gc ?_
   refine ag (cS (v:= .agg (bU mf)) rfl (fun w=>by kernel_rfl)) ?_
   iterate 4 refine Gs ?_
   refine Gc ?_
   refine aq (.inl rfl) (tB rfl (cf rfl) (al rfl) (al rfl)) (fun w1 hw=> ?_)
   exact⟨(mf,⟨Sv.none,[]⟩),by rw[hE.1];rfl,⟨by rw[hE.1];rfl,by rw[hE.2];rfl⟩,C1 (xD (ah.mem hw:Mem w [] _))⟩
  ·
   replace h1:=bz h1
   have yk:(bx (cv c)).2=0:=h1
   have HO:kI (vv aB)=true:=by rw[kv];exact Vj yk
   have yJ:cv aB.ae=(vv aB).ae:=rfl
   have ZB:aV (cv aB.ae)=true:=(zH HO).1
   have ZC: ∀y∈aB.at_.xs,0≤y∧y≤65535∧(y≠0→jX (cv aB.ae) (y -1)=true):=fun y hy=>by
    obtain⟨g1,g2⟩:=(zH HO).2.2 y hy
    obtain⟨j,hj⟩:=List.getElem?_of_mem hy
    exact⟨g1,g2,fun g=>(Lj HO hj g).2.2⟩
   refine Gc ?_
   refine hG (by kernel_rfl) (by kernel_rfl) ?_
   iterate 4 refine Gq ?_
   refine tp (cE rfl trivial) ?_
   refine Gq ?_
   refine Gc ?_
   refine au rfl (fun h2=> ?_) (fun h2=> ?_)
   ·
    replace h2:=bz h2
    have AA:(((bx (cv c)).1.at_.length:Nat):Int)≠dh (cv c):=by rw[←Dw];exact h2
    have hE:=MM h0 yk AA
    refine Gc ?_
    refine ag (cS (v:= .agg (bU mf)) rfl (fun w=>by kernel_rfl)) ?_
    iterate 3 refine Gs ?_
    refine Gc ?_
    refine aq (.inl rfl) (tB rfl (cf rfl) (al rfl) (al rfl)) (fun w1 hw=> ?_)
    exact⟨(mf,⟨Sv.none,[]⟩),by rw[hE.1];rfl,⟨by rw[hE.1];rfl,by rw[hE.2];rfl⟩,C1 (xD (ah.mem hw:Mem w [] _))⟩
   ·
    replace h2:=bz h2
    have AA:(((bx (cv c)).1.at_.length:Nat):Int)=dh (cv c):=by rw[←Dw];exact h2
    have ajU:aB.at_.xs.length≤64:=by have:=GK (cv c);rw[←Dw]at AA;omega
    refine Gc ?_
    iterate 3 refine Gs ?_
    refine tA (enc:=ca (τ:=UInt8)) (n:=aB.at_.xs.length) (cap:=aB.at_.xs.length) (⟨Sv.none,[]⟩:Sl UInt8) rfl rfl rfl rfl rfl (by omega) (by omega) (by omega) fun jS=> ?_
    refine Gs ?_
    refine Gc ?_
    iterate 3 refine Gs ?_
    refine Gc ?_
    refine cc (X:=Nat×List (Sl UInt8)) (fun zz=>[(36, .int .i64 (zz.1:Nat)),(7,(⟨false,jS,0,aB.at_.xs.length,aB.at_.xs.length,none⟩:Sv).val),(2, .pointer (some ⟨b2,0,none⟩)),(5, .pointer (some ⟨b5,0,none⟩)),(35, .int .i64 ((List.replicate aB.at_.xs.length (⟨Sv.none,[]⟩:Sl UInt8)).length:Nat))]) (fun zz=>[own (ca (τ:=UInt8)) 1 ⟨false,jS,0,aB.at_.xs.length,aB.at_.xs.length,none⟩ zz.2,ai.all ((zz.2.take zz.1).map fun b:Sl UInt8=>fz b),ar b5 (bI aB) 29,fz aB.ae,own bK 1 aB.at_.sv aB.at_.xs,ar b2 (bU mf) 54,ar b1 (aD c) 25]) (fun zz=>zz.1≤aB.at_.xs.length∧zz.2.length=aB.at_.xs.length∧aK (zz.2.take zz.1)=(aB.at_.xs.take zz.1).map (eo (cv aB.ae))) (fun zz=>aB.at_.xs.length -zz.1) (0,List.replicate aB.at_.xs.length (⟨Sv.none,[]⟩:Sl UInt8)) ⟨Nat.zero_le _,by simp,by simp[aK]⟩ (Sub.cons rfl (Sub.cons rfl (Sub.cons rfl (Sub.cons rfl (Sub.cons rfl (Sub.nil _)))))) (fun w hw=>by
     simp only[List.take_zero,List.map_nil];exact ah.mem (Mem.vo hw)) ?_
    rintro⟨i,qs⟩ ⟨bj,aH,bG⟩
    dsimp only
    simp only at bj aH bG
    refine Gc ?_
    refine Gs ?_
    refine Gc ?_
    refine au rfl (fun h3=> ?_) (fun h3=> ?_)
    ·
     replace h3:=bz h3
     rw[List.length_replicate]at h3
     obtain⟨q,hq⟩:=get_some (xs:=qs) (i:=i) (by omega)
     obtain⟨y,hy⟩:=get_some (xs:=aB.at_.xs) (i:=i) (by omega)
     have nG:aB.at_.xs.getD i 0=y:=ob hy
     refine Gc ?_
     iterate 2 refine Gs ?_
     iterate 2 refine Gi ?_
     have ZD:=Cq (b:=jS) (n:=aB.at_.xs.length) (by omega)
     refine Gi ?_
     iterate 4 refine Gs ?_
     refine bo rfl ⟨ZB,by omega,ZC⟩ fun jQ pZ=> ?_
     obtain⟨e44,ajV⟩:=get_some (xs:=qs) (i:=i) (by omega)
     refine ag (lS (s:=⟨false,jS,0,aB.at_.xs.length,aB.at_.xs.length,none⟩) (i:=i) rfl rfl rfl ZD (by simp only;omega)) ?_
     refine BH (s:=⟨false,jS,0,aB.at_.xs.length,aB.at_.xs.length,none⟩) (xs:=qs) (k:=i) (a:=q) (⟨jQ,eo (cv aB.ae) (aB.at_.xs.getD i 0)⟩:Sl UInt8) (by kernel_rfl) rfl rfl (by omega) hq ?_
     refine Gc ?_
     iterate 2 refine Gs ?_
     refine Gi ?_
     exact bA (x:=(i,qs)) (i+1,qs.set i (⟨jQ,eo (cv aB.ae) (aB.at_.xs.getD i 0)⟩:Sl UInt8)) ⟨by first|omega|(simp only[];omega),by rw[List.length_set];exact aH,by rw[aK,Co hq,←aK,bG,List.take_add_one,hy,List.map_append,nG];rfl⟩ (by simp only;omega) (Sub.cons rfl (Sub.cons rfl (Sub.cons rfl (Sub.cons rfl (Sub.cons rfl (Sub.nil _)))))) (fun w hw=>by
      have h1:=Fv (a:=(⟨jQ,eo (cv aB.ae) (aB.at_.xs.getD i 0)⟩:Sl UInt8)) (ah.mem hw:Mem _ (own aN 1 jQ (eo (cv aB.ae) (aB.at_.xs.getD i 0))::[own (ca (τ:=UInt8)) 1 ⟨false,jS,0,aB.at_.xs.length,aB.at_.xs.length,none⟩ (qs.set i (⟨jQ,eo (cv aB.ae) (aB.at_.xs.getD i 0)⟩:Sl UInt8)),ai.all ((qs.take i).map fun b:Sl UInt8=>fz b),ar b5 (bI aB) 29,fz aB.ae,own bK 1 aB.at_.sv aB.at_.xs,ar b2 (bU mf) 54,ar b1 (aD c) 25]) _)
      have h3:=Mem.xe (ah.mem h1:Mem _ (fz (⟨jQ,eo (cv aB.ae) (aB.at_.xs.getD i 0)⟩:Sl UInt8)::ai.all ((qs.take i).map fun b:Sl UInt8=>fz b)::[own (ca (τ:=UInt8)) 1 ⟨false,jS,0,aB.at_.xs.length,aB.at_.xs.length,none⟩ (qs.set i (⟨jQ,eo (cv aB.ae) (aB.at_.xs.getD i 0)⟩:Sl UInt8)),ar b5 (bI aB) 29,fz aB.ae,own bK 1 aB.at_.sv aB.at_.xs,ar b2 (bU mf) 54,ar b1 (aD c) 25]) _)
      rw[FE (z':=(⟨jQ,eo (cv aB.ae) (aB.at_.xs.getD i 0)⟩:Sl UInt8)) hq]at h3
      exact ah.mem h3)
    ·
     replace h3:=bz h3
     rw[List.length_replicate]at h3
     obtain rfl:i=qs.length:=by omega
     rw[List.take_of_length_le (Nat.le_refl _)]at*
     rw[List.take_of_length_le (by omega)]at bG
     have sO:lx (⟨⟨false,jS,0,aB.at_.xs.length,aB.at_.xs.length,none⟩,qs⟩:Sl (Sl UInt8))=cd (bx (cv c)).1:=by rw[←kv];exact bG
     have dz: ∀x∈qs,x.xs.length≤100000:=fun x hx=>by
      have hm:x.xs∈aK qs:=List.mem_map_of_mem (f:=fun x:Sl UInt8=>x.xs) hx
      rw[bG]at hm
      obtain⟨y,_,ZE⟩:=List.mem_map.1 hm
      rw[←ZE]
      exact Nat.le_trans (Vl _ _) (by decide)
     iterate 6 refine Gi ?_
     refine rl [fz (⟨⟨false,jS,0,aB.at_.xs.length,aB.at_.xs.length,none⟩,qs⟩:Sl (Sl UInt8)),ar b5 (bI aB) 29,fz aB.ae,own bK 1 aB.at_.sv aB.at_.xs,ar b2 (bU mf) 54,ar b1 (aD c) 25] (fun w hw=>ah.mem (FD (ah.mem hw:Mem _ (own (ca (τ:=UInt8)) 1 ⟨false,jS,0,aB.at_.xs.length,aB.at_.xs.length,none⟩ qs::ai.all (qs.map fun b:Sl UInt8=>fz b)::[ar b5 (bI aB) 29,fz aB.ae,own bK 1 aB.at_.sv aB.at_.xs,ar b2 (bU mf) 54,ar b1 (aD c) 25]) _))) ?_
     refine Gi ?_
     refine Gs ?_
     refine bo (hc:=Zf (a:=(⟨⟨false,jS,0,aB.at_.xs.length,aB.at_.xs.length,none⟩,qs⟩:Sl (Sl UInt8)))) rfl ⟨by show qs.length≤1000;omega,dz⟩ fun uw NA=> ?_
     refine Gs ?_
     refine ag (aU (v:=uw.val) rfl rfl) ?_
     refine ag (aU (v:= .int .i64 (jh (lx (⟨⟨false,jS,0,aB.at_.xs.length,aB.at_.xs.length,none⟩,qs⟩:Sl (Sl UInt8))))) rfl rfl) ?_
     iterate 2 refine Gs ?_
     refine Gc ?_
     iterate 2 refine Gs ?_
     refine Gc ?_
     refine au rfl (fun h4=> ?_) (fun h4=> ?_)
     ·
      replace h4:=bz h4
      rw[sO]at h4
      have hE:=MN h0 yk AA h4
      refine Gc ?_
      refine ag (cS (v:= .agg (bU mf)) rfl (fun w=>by kernel_rfl)) ?_
      iterate 3 refine Gs ?_
      refine Gc ?_
      refine aq (.inl rfl) (tB rfl (cf rfl) (al rfl) (al rfl)) (fun w1 hw=> ?_)
      exact⟨(mf,⟨Sv.none,[]⟩),by rw[hE.1];rfl,⟨by rw[hE.1];rfl,by rw[hE.2];rfl⟩,C1 (xD (ah.mem hw:Mem w [] _))⟩
     ·
      replace h4:=bz h4
      have NV:=h4
      rw[sO]at NV
      have hE:=CY h0 yk AA NV
      refine Gc ?_
      iterate 2 refine Gs ?_
      refine ag (cS (v:= .agg (bU (⟨aB,⟨uw,iD (lx (⟨⟨false,jS,0,aB.at_.xs.length,aB.at_.xs.length,none⟩,qs⟩:Sl (Sl UInt8)))⟩⟩:cB))) rfl (HM aB ⟨uw,iD (lx (⟨⟨false,jS,0,aB.at_.xs.length,aB.at_.xs.length,none⟩,qs⟩:Sl (Sl UInt8)))⟩)) ?_
      iterate 4 refine Gs ?_
      refine Gc ?_
      refine aq (.inl rfl) (tB rfl (cf rfl) (al rfl) (al rfl)) (fun w1 hw=> ?_)
      exact⟨((⟨aB,⟨uw,iD (lx (⟨⟨false,jS,0,aB.at_.xs.length,aB.at_.xs.length,none⟩,qs⟩:Sl (Sl UInt8)))⟩⟩:cB),(⟨⟨false,jS,0,aB.at_.xs.length,aB.at_.xs.length,none⟩,qs⟩:Sl (Sl UInt8))),by rw[hE.1],⟨by rw[hE.1];simp only[bg,sO,kv],by rw[hE.2];exact sO⟩,MO (f:=(⟨aB,⟨uw,iD (lx (⟨⟨false,jS,0,aB.at_.xs.length,aB.at_.xs.length,none⟩,qs⟩:Sl (Sl UInt8)))⟩⟩:cB)) (ah.mem hw:Mem w [fz aB.ae,own bK 1 aB.at_.sv aB.at_.xs,own ax 19 uw (iD (lx (⟨⟨false,jS,0,aB.at_.xs.length,aB.at_.xs.length,none⟩,qs⟩:Sl (Sl UInt8)))),fz (⟨⟨false,jS,0,aB.at_.xs.length,aB.at_.xs.length,none⟩,qs⟩:Sl (Sl UInt8))] _)⟩
instance ajW{w0:World}{L:List ai}{c:Cp}[hc:aW w0 L c]:cn Tryz.prog 54 w0 L [.agg (aD c)] (cB×Sl (Sl UInt8)) (fun zz=> .tuple #[.agg (bU zz.1),zz.2.sv.val, .int .i64 ((c8 (cv c)).2)]) (fun zz=>fz zz.1::fz zz.2::L) (fun zz=>bg zz.1=(c8 (cv c)).1∧lx zz.2=jP (cv c)) (True):=⟨fun hp w hw=>(Zz w c (hc.h w hw)).mono fun e w' ⟨x,h1,h2,h3⟩=>⟨x,h1,h2,hw.call h3⟩⟩
open Go.aA Go.Kb
open Go.RowKit
theorem ZF(w:World)(x:Sv)(xs:List Rt)(y:Sv)(ys:List Rt)(hx:bQ ax 19 (hp w) x xs)(hy:bQ ax 19 (hp w) y ys):Calls Tryz.prog 105 #[x.val,y.val] w fun e w'=>e= .returned (.bool (decide (xs=ys)))∧Mem w [] w':=by
 have uh:Gv w x ax 19 xs:=⟨hx⟩
 have G6:Gv w y ax 19 ys:=⟨hy⟩
 have Nc:=hx.bd
 refine ba (args:=[_,_]) Tryz.func105 rfl Tryz.ntmps105 rfl ?_
 change Cw _ _ _ _ _ [(0,x.val),(1,y.val)] []
 refine Gc ?_
 refine Gs ?_
 refine Gc ?_
 iterate 5 refine Gs ?_
 refine Gc ?_
 refine au rfl (fun h0=> ?_) (fun h0=> ?_)
 ·
  replace h0:=bz h0
  have hz:decide (xs=ys)=false:=decide_eq_false fun e=>h0 (by rw[e])
  refine Gc ?_
  refine Gs ?_
  refine Gc ?_
  refine aq (.inl rfl) (aJ rfl (al rfl)) (fun w1 hw=> ?_)
  exact⟨congrArg (fun b=>Ending.returned (Value.bool b)) (hz.symm),ah.mem hw⟩
 ·
  replace h0:=bz h0
  have lZ:xs.length=ys.length:=by omega
  refine Gc ?_
  iterate 3 refine Gs ?_
  refine Gc ?_
  refine cc (X:=Nat) (fun zz=>[(13, .int .i64 (zz:Nat)),(0,x.val),(1,y.val),(12, .int .i64 (xs.length:Nat))]) (fun zz=>[]) (fun zz=>zz≤xs.length∧ ∀j,j<zz→xs[j]? =ys[j]?) (fun zz=>xs.length -zz) 0 ⟨Nat.zero_le _,fun j hj=>by first|omega|(simp only[];omega)⟩ (Sub.cons rfl (Sub.cons rfl (Sub.cons rfl (Sub.cons rfl (Sub.nil _))))) (fun w hw=>ah.mem hw) ?_
  rintro i ⟨bj,aH⟩
  refine Gc ?_
  refine Gs ?_
  refine Gc ?_
  refine au rfl (fun h1=> ?_) (fun h1=> ?_)
  ·
   replace h1:=bz h1
   obtain⟨p,iR⟩:=get_some (xs:=xs) (i:=i) (by omega)
   obtain⟨q,om⟩:=get_some (xs:=ys) (i:=i) (by omega)
   refine Gc ?_
   iterate 2 refine Gs ?_
   refine Gc ?_
   refine hG (by kernel_rfl) (by kernel_rfl) ?_
   iterate 2 refine Gq ?_
   refine bf (bk rfl rfl i rfl (by omega)) ?_
   refine bf (gR rfl i iR rfl) ?_
   iterate 2 refine Gq ?_
   refine bf (bk rfl rfl i rfl (by omega)) ?_
   refine bf (gR rfl i om rfl) ?_
   refine bf (Ep rfl rfl) ?_
   refine Gc ?_
   refine au rfl (fun h2=> ?_) (fun h2=> ?_)
   ·
    replace h2:=bz h2
    have hz:decide (xs=ys)=false:=decide_eq_false fun e=>h2 (by rw[e]at iR;rw[iR]at om;cases om;rfl)
    refine Gc ?_
    refine Gs ?_
    refine Gc ?_
    refine aq (.inl rfl) (aJ rfl (al rfl)) (fun w1 hw=> ?_)
    exact⟨congrArg (fun b=>Ending.returned (Value.bool b)) (hz.symm),ah.mem hw⟩
   ·
    replace h2:=bz h2
    refine Gc ?_
    iterate 2 refine Gs ?_
    refine Gi ?_
    exact bA (x:=(i)) (i+1) ⟨by first|omega|(simp only[];omega),fun j hj=>if e:j=i then(by subst e;rw[iR,om,h2])else aH j (by first|omega|(simp only[];omega))⟩ (by first|omega|(simp only[];omega)) (Sub.cons rfl (Sub.cons rfl (Sub.cons rfl (Sub.cons rfl (Sub.nil _))))) (fun w hw=>ah.mem hw)
  ·
   replace h1:=bz h1
   obtain rfl:i=xs.length:=by omega
   have hz:decide (xs=ys)=true:=decide_eq_true (List.ext_getElem? fun j=>by
    rcases Nat.lt_or_ge j xs.length with hj|hj
    ·
     exact aH j hj
    ·
     rw[List.getElem?_eq_none hj,List.getElem?_eq_none (by omega)])
   refine Gc ?_
   refine Gs ?_
   refine Gc ?_
   refine aq (.inl rfl) (aJ rfl (al rfl)) (fun w1 hw=> ?_)
   exact⟨congrArg (fun b=>Ending.returned (Value.bool b)) (hz.symm),ah.mem hw⟩
instance ajX{w0:World}{L:List ai}{x:Sv}{xs:List Rt}{y:Sv}{ys:List Rt}[hx:df w0 L ax 19 x xs][hy:df w0 L ax 19 y ys]:cI Tryz.prog 105 w0 L [x.val,y.val] (.bool (decide (xs=ys))) (True):=⟨fun hp w hw=>ZF w x xs y ys (hx.h w hw) (hy.h w hw)⟩
theorem ZG(w:World)(f:cB)(hf:Deep.bb (hp w) f):Calls Tryz.prog 62 #[.agg (bU f)] w fun e w'=> ∃zz:Sl (Sl UInt8),e= .returned (.tuple #[zz.sv.val, .bool (gx (bg f))])∧(gx (bg f)=true→lx zz=jP {(bg f).ak.ae with off:=false})∧Mem w [fz zz] w':=by
 have AB:cm w f:=⟨hf⟩
 refine ba (args:=[_]) Tryz.func62 rfl Tryz.ntmps62 rfl ?_
 change Cw _ _ _ _ _ [(0, .agg (bU f))] []
 refine Gc ?_
 refine bY rfl fun b1=> ?_
 iterate 2 refine Gs ?_
 refine Gc ?_
 iterate 2 refine Gs ?_
 refine ag (gD rfl) ?_
 refine bH fun b4=> ?_
 refine Gs ?_
 refine Gc ?_
 refine Gs ?_
 refine eV (cs':=aD (⟨f.ak.ae.pages,f.ak.ae.size,f.ak.ae.blocks,f.ak.ae.ops,false,f.ak.ae.aQ⟩:Cp)) rfl rfl (by show 4<6;decide) (by first|rfl|exact Sv.one _) rfl ?_
 refine Gc ?_
 refine Gs ?_
 refine bo rfl trivial fun mi xY=> ?_
 have Dx:bg mi.1=(c8 {(bg f).ak.ae with off:=false}).1:=xY.1
 have g1:mi.1.ak.gen.toNat=(c8 {(bg f).ak.ae with off:=false}).1.ak.gen:=congrArg (fun z:FV=>z.ak.gen) Dx
 have g2:mi.1.ak.last=(c8 {(bg f).ak.ae with off:=false}).1.ak.last:=congrArg (fun z:FV=>z.ak.last) Dx
 have g3:mi.1.ak.at_.xs=(c8 {(bg f).ak.ae with off:=false}).1.ak.at_:=congrArg (fun z:FV=>z.ak.at_) Dx
 have g4:mi.1.table.xs=(c8 {(bg f).ak.ae with off:=false}).1.table:=congrArg FV.table Dx
 have hS:gx (bg f)=true↔(c8 {(bg f).ak.ae with off:=false}).2=0∧f.ak.gen.toNat=mi.1.ak.gen.toNat∧f.ak.last=mi.1.ak.last∧f.ak.at_.xs=mi.1.ak.at_.xs∧f.table.xs=mi.1.table.xs:=by rw[GJ,g1,g2,g3,g4];rfl
 refine Gs ?_
 refine ag (aU (v:= .agg (bU mi.1)) rfl rfl) ?_
 refine ag (aU (v:=mi.2.sv.val) rfl rfl) ?_
 refine ag (aU (v:= .int .i64 ((c8 (cv (⟨f.ak.ae.pages,f.ak.ae.size,f.ak.ae.blocks,f.ak.ae.ops,false,f.ak.ae.aQ⟩:Cp))).2)) rfl rfl) ?_
 refine bH fun b5=> ?_
 iterate 3 refine Gs ?_
 refine Gc ?_
 iterate 3 refine Gs ?_
 refine Gg ?_
 refine bM rfl rfl rfl (fun hg=>(Ry.yl (aI (o':=7) (aG hg rfl) rfl))) ?_
 iterate 2 refine Gg ?_
 refine bM rfl rfl rfl (fun hg=>(Ry.yl (aI (o':=7) (aG hg rfl) rfl))) ?_
 iterate 2 refine Gg ?_
 iterate 2 refine Gs ?_
 refine Gg ?_
 refine bM rfl rfl rfl (fun hg=>(Ry.yl (aI (o':=8) (aG hg rfl) rfl))) ?_
 iterate 2 refine Gg ?_
 refine bM rfl rfl rfl (fun hg=>(Ry.yl (aI (o':=8) (aG hg rfl) rfl))) ?_
 iterate 2 refine Gg ?_
 refine Gs ?_
 refine Gc ?_
 refine au rfl (fun h0=> ?_) (fun h0=> ?_)
 ·
  replace h0:=bz h0
  have hE:gx (bg f)=false:=by
   cases hk:gx (bg f)with
   |false=>rfl
   |true=>
    obtain⟨q1,q2,q3,q4,q5⟩:=hS.1 hk
    rcases h0 with(h|h)|h
    ·
     exact absurd q1 h
    ·
     omega
    ·
     exact absurd q3 h
  refine Gc ?_
  iterate 2 refine Gs ?_
  refine Gc ?_
  refine aq (.inl rfl) (bq rfl (al rfl) (al rfl)) (fun w1 hw=> ?_)
  exact⟨⟨Sv.none,[]⟩,by rw[hE];rfl,(fun h=>by rw[hE]at h;cases h),xD (ah.mem hw:Mem w [] _)⟩
 ·
  replace h0:=bz h0
  refine Gc ?_
  iterate 9 refine Gs ?_
  iterate 4 refine Gg ?_
  refine bM rfl rfl rfl (fun hg=>cE (dy (aG hg rfl) (dy (aG hg rfl) gB)) trivial) ?_
  refine bM rfl rfl rfl (fun hg=>(Ry.yl (iq (aG hg rfl)))) ?_
  refine Gs ?_
  refine Gc ?_
  refine au rfl (fun h1=> ?_) (fun h1=> ?_)
  ·
   replace h1:=bz h1
   have hE:gx (bg f)=false:=by
    cases hk:gx (bg f)with
    |false=>rfl
    |true=>
     obtain⟨q1,q2,q3,q4,q5⟩:=hS.1 hk
     rcases h1 with h|h
     ·
      exact absurd q4 h
     ·
      exact absurd q5 h
   refine Gc ?_
   iterate 2 refine Gs ?_
   refine Gc ?_
   refine aq (.inl rfl) (bq rfl (al rfl) (al rfl)) (fun w1 hw=> ?_)
   exact⟨⟨Sv.none,[]⟩,by rw[hE];rfl,(fun h=>by rw[hE]at h;cases h),xD (ah.mem hw:Mem w [] _)⟩
  ·
   replace h1:=bz h1
   have hE:gx (bg f)=true:=hS.2 ⟨h0.1.1,by have:=h0.1.2;omega,h0.2,h1.1,h1.2⟩
   refine Gc ?_
   iterate 3 refine Gs ?_
   refine Gc ?_
   refine aq (.inl rfl) (bq rfl (al rfl) (al rfl)) (fun w1 hw=> ?_)
   exact⟨mi.2,by rw[hE],(fun _=>xY.2),ah.mem hw⟩
instance ajY{w0:World}{L:List ai}{f:cB}[hf:aW w0 L f]:cn Tryz.prog 62 w0 L [.agg (bU f)] (Sl (Sl UInt8)) (fun zz=> .tuple #[zz.sv.val, .bool (gx (bg f))]) (fun zz=>fz zz::L) (fun zz=>gx (bg f)=true→lx zz=jP {(bg f).ak.ae with off:=false}) (True):=⟨fun hp w hw=>(ZG w f (hf.h w hw)).mono fun e w' ⟨x,h1,h2,h3⟩=>⟨x,h1,h2,hw.call h3⟩⟩
theorem ZH(w:World)(f:cB)(hf:Deep.bb (hp w) f):Calls Tryz.prog 28 #[.agg (bU f)] w fun e w'=>e= .returned (.bool (gx (bg f)))∧Mem w [] w':=by
 have AB:cm w f:=⟨hf⟩
 refine ba (args:=[_]) Tryz.func28 rfl Tryz.ntmps28 rfl ?_
 change Cw _ _ _ _ _ [(0, .agg (bU f))] []
 refine Gc ?_
 refine bY rfl fun b1=> ?_
 refine Gs ?_
 refine Gc ?_
 refine Gs ?_
 refine bo rfl trivial fun x7 hp7=> ?_
 refine Gs ?_
 refine ag (aU (v:=x7.sv.val) rfl rfl) ?_
 refine ag (aU (v:= .bool (gx (bg f))) rfl rfl) ?_
 iterate 2 refine Gs ?_
 refine Gc ?_
 iterate 2 refine Gs ?_
 refine Gc ?_
 refine aq (.inl rfl) (aJ rfl (al rfl)) (fun w1 hw=> ?_)
 exact⟨congrArg (fun b=>Ending.returned (Value.bool b)) (rfl),ah.mem hw⟩
instance ajZ{w0:World}{L:List ai}{f:cB}[hf:aW w0 L f]:cI Tryz.prog 28 w0 L [.agg (bU f)] (.bool (gx (bg f))) (True):=⟨fun hp w hw=>ZH w f (hf.h w hw)⟩
theorem ZI(w:World)(c:Cp)(hc:Deep.bb (hp w) c):Calls Tryz.prog 21 #[.agg (aD c)] w fun e w'=> ∃zz:cB,e= .returned (.tuple #[.agg (bU zz), .int .i64 ((c8 (cv c)).2)])∧(bg zz=(c8 (cv c)).1)∧Mem w [fz zz] w':=by
 have ke:cm w c:=⟨hc⟩
 refine ba (args:=[_]) Tryz.func21 rfl Tryz.ntmps21 rfl ?_
 change Cw _ _ _ _ _ [(0, .agg (aD c))] []
 refine Gc ?_
 refine bY rfl fun b1=> ?_
 refine bH fun b2=> ?_
 refine Gs ?_
 refine Gc ?_
 refine Gs ?_
 refine bo rfl trivial fun x9 zZ=> ?_
 refine Gs ?_
 refine ag (aU (v:= .agg (bU x9.1)) rfl rfl) ?_
 refine ag (aU (v:=x9.2.sv.val) rfl rfl) ?_
 refine ag (aU (v:= .int .i64 ((c8 (cv c)).2)) rfl rfl) ?_
 refine bH fun b4=> ?_
 iterate 3 refine Gs ?_
 refine Gc ?_
 iterate 4 refine Gs ?_
 refine Gc ?_
 refine aq (.inl rfl) (bq rfl (cf rfl) (al rfl)) (fun w1 hw=> ?_)
 exact⟨x9.1,rfl,zZ.1,ah.mem hw⟩
instance aj0{w0:World}{L:List ai}{c:Cp}[hc:aW w0 L c]:cn Tryz.prog 21 w0 L [.agg (aD c)] (cB) (fun zz=> .tuple #[.agg (bU zz), .int .i64 ((c8 (cv c)).2)]) (fun zz=>fz zz::L) (fun zz=>bg zz=(c8 (cv c)).1) (True):=⟨fun hp w hw=>(ZI w c (hc.h w hw)).mono fun e w' ⟨x,h1,h2,h3⟩=>⟨x,h1,h2,hw.call h3⟩⟩
theorem ZJ(w:World)(f:cB)(k:Key)(bits:Int)(hf:Deep.bb (hp w) f):Calls Tryz.prog 27 #[.agg (bU f), .agg (cT k), .int .i64 bits] w fun e w'=>e= .returned (.tuple #[.agg (ax (nC (bg f) k bits)), .int .i64 (nD (bg f) k bits)])∧Mem w [] w':=by
 have AB:cm w f:=⟨hf⟩
 refine ba (args:=[_,_,_]) Tryz.func27 rfl Tryz.ntmps27 rfl ?_
 change Cw _ _ _ _ _ [(0, .agg (bU f)),(1, .agg (cT k)),(2, .int .i64 bits)] []
 refine Gc ?_
 refine bY rfl fun b3=> ?_
 refine bY rfl fun b4=> ?_
 refine bH fun b6=> ?_
 refine Gs ?_
 refine Gc ?_
 iterate 3 refine Gs ?_
 refine Gc ?_
 refine au rfl (fun h0=> ?_) (fun h0=> ?_)
 ·
  replace h0:=bz h0
  refine Gc ?_
  refine ag (tl rfl) ?_
  iterate 2 refine Gs ?_
  refine Gc ?_
  refine aq (.inl rfl) (bq rfl (cf rfl) (al rfl)) (fun w1 hw=> ?_)
  exact⟨(by rw[nC,nD,if_neg (by rw[h0];simp),if_neg (by rw[h0];simp)]),ah.mem hw⟩
 ·
  replace h0:=bz h0
  refine Gc ?_
  iterate 5 refine Gs ?_
  refine ag (aU (v:= .agg (ax (lh f.table.xs k bits))) rfl rfl) ?_
  refine ag (aU (v:= .int .i64 (mO f.table.xs k bits)) rfl rfl) ?_
  iterate 2 refine Gs ?_
  refine Gc ?_
  refine aq (.inl rfl) (bq rfl (cf rfl) (al rfl)) (fun w1 hw=> ?_)
  exact⟨(by rw[nC,nD,if_pos h0,if_pos h0];rfl),ah.mem hw⟩
instance aj1{w0:World}{L:List ai}{f:cB}{k:Key}{bits:Int}[hf:aW w0 L f]:cI Tryz.prog 27 w0 L [.agg (bU f), .agg (cT k), .int .i64 bits] (.tuple #[.agg (ax (nC (bg f) k bits)), .int .i64 (nD (bg f) k bits)]) (True):=⟨fun hp w hw=>ZJ w f k bits (hf.h w hw)⟩
open Go.aA Go.Kb
open Go.RowKit
theorem NW(v:bO)(w:World):(Instr.build 54 #[(0, .agg (bI v))]).run Tryz.prog w= .ok (.agg (bU ⟨v,⟨Sv.none,[]⟩⟩)) w:=by
 obtain⟨⟨a1,a2,⟨a3,a4⟩,a5,a6,⟨a7,a8⟩⟩,⟨a9,Zj⟩,Zk,Zl⟩:=v
 unfold bU bI
 obtain⟨e3,b3,o3,l3,c3,p3⟩:=a3
 obtain⟨e7,b7,o7,l7,c7,p7⟩:=a7
 obtain⟨e9,b9,o9,l9,c9,p9⟩:=a9
 cases e3<;>cases e7<;>cases e9<;>kernel_rfl
theorem NX{w0 w:World}{L:List ai}{v:bO}(h:Mem w0 (fz v.ae::fz v.at_::L) w):Mem w0 (fz (⟨v,⟨Sv.none,[]⟩⟩:cB)::L) w:=
 C0 (f:=⟨v,⟨Sv.none,[]⟩⟩) ((zS (a:=⟨Sv.none,[]⟩) (Mem.dZ ax 19 h)).perm ((List.Perm.swap _ _ _).trans (List.Perm.cons _ (List.Perm.swap _ _ _))))
theorem ZK(w:World)(c:Cp)(hc:Deep.bb (hp w) c)(bc:dW c):Calls Tryz.prog 33 #[.agg (aD c)] w fun e w'=> ∃zz:cB,e= .returned (.tuple #[.agg (bU zz), .int .i64 ((ji (cv c)).2)])∧(bg zz=(ji (cv c)).1)∧Mem w [fz zz] w':=by
 have ke:cm w c:=⟨hc⟩
 have lH:dW c:=bc
 refine ba (args:=[_]) Tryz.func33 rfl Tryz.ntmps33 rfl ?_
 change Cw _ _ _ _ _ [(0, .agg (aD c))] []
 refine Gc ?_
 refine bY rfl fun b1=> ?_
 refine bH fun b2=> ?_
 refine Gs ?_
 refine Gc ?_
 iterate 3 refine Gs ?_
 refine Gc ?_
 refine au rfl (fun h0=> ?_) (fun h0=> ?_)
 ·
  replace h0:=bz h0
  have hE:ji (cv c)=(⟨⟨cv c,[],0,0⟩,[]⟩,1):=by rw[ji,if_pos h0]
  refine Gc ?_
  refine Gs ?_
  refine bo rfl (by assumption) fun v9 ZL=> ?_
  refine ag (cS (v:= .agg (bI (⟨v9,⟨Sv.none,[]⟩,0,0⟩:bO))) rfl (Au v9)) ?_
  refine ag (cS (v:= .agg (bU (⟨(⟨v9,⟨Sv.none,[]⟩,0,0⟩:bO),⟨Sv.none,[]⟩⟩:cB))) rfl (NW (⟨v9,⟨Sv.none,[]⟩,0,0⟩:bO))) ?_
  iterate 2 refine Gs ?_
  refine Gc ?_
  refine aq (.inl rfl) (bq rfl (cf rfl) (al rfl)) (fun w1 hw=> ?_)
  exact⟨(⟨(⟨v9,⟨Sv.none,[]⟩,0,0⟩:bO),⟨Sv.none,[]⟩⟩:cB),by rw[hE],by rw[hE];simp only[bg,vv,ZL];rfl,NX (v:=(⟨v9,⟨Sv.none,[]⟩,0,0⟩:bO)) (ah.mem (Av (ah.mem hw:Mem w [fz v9] _)))⟩
 ·
  replace h0:=bz h0
  have hE:ji (cv c)=(⟨(gX (cv c) (dh (cv c))).1,[]⟩,(gX (cv c) (dh (cv c))).2):=by rw[ji,if_neg h0]
  refine Gc ?_
  refine rv [3,7,8,2007,4003] [[],[],[],[],[3],[3],[3],[],[3,7],[3,7,8]] [0,1,2,3,4,5,6,7,8,9] [ar b1 (aD c) 25] [(7,lW Tryz.prog 29)] (by kernel_rfl) (fun _ hw=>ah.mem hw) (by kernel_rfl) (by kernel_rfl) ?_
  refine an rfl (eJ rfl) ?_
  refine an rfl (eJ rfl) ?_
  refine vm rfl (cE rfl trivial) ?_
  refine tH rfl rfl (by assumption) (fun e x w hw=>ah.mem hw) (Cert.one (i:=7) rfl rfl rfl kZ (Cert.none rfl)) fun fO Aq=>⟨fun _ hw=>ah.mem hw,?_⟩
  refine an rfl (aE rfl) ?_
  refine an rfl (aU (v:= .agg (bI (⟨fO.1,fO.2.1,fO.2.2.1,fO.2.2.2⟩:bO))) rfl rfl) ?_
  refine an rfl (aU (v:= .int .i64 ((gX (cv c) (dh (cv c))).2)) rfl rfl) ?_
  refine pA (m:=lW Tryz.prog 29) rfl rfl kZ (Cert.none rfl) fun b4=> ?_
  change Ln _ _ _ _ _ _ _ _ (cD _ _ (.pointer (some ⟨b4,0,none⟩))) (ar b4 (bI k9) 29::_) _
  refine dN rfl (pz rfl rfl ⟨fun _ hw=>ah.mem hw,?_⟩)
  refine an rfl (bp rfl) ?_
  refine Gc ?_
  refine Gs ?_
  refine ag (cS (v:= .agg (bU (⟨(⟨fO.1,fO.2.1,fO.2.2.1,fO.2.2.2⟩:bO),⟨Sv.none,[]⟩⟩:cB))) rfl (NW (⟨fO.1,fO.2.1,fO.2.2.1,fO.2.2.2⟩:bO))) ?_
  iterate 3 refine Gs ?_
  refine Gc ?_
  refine aq (.inl rfl) (bq rfl (cf rfl) (al rfl)) (fun w1 hw=> ?_)
  exact⟨(⟨(⟨fO.1,fO.2.1,fO.2.2.1,fO.2.2.2⟩:bO),⟨Sv.none,[]⟩⟩:cB),by rw[hE],by rw[hE];simp only[bg,vv,Aq],NX (v:=(⟨fO.1,fO.2.1,fO.2.2.1,fO.2.2.2⟩:bO)) (ah.mem hw)⟩
instance aj2{w0:World}{L:List ai}{c:Cp}[hc:aW w0 L c]:cn Tryz.prog 33 w0 L [.agg (aD c)] (cB) (fun zz=> .tuple #[.agg (bU zz), .int .i64 ((ji (cv c)).2)]) (fun zz=>fz zz::L) (fun zz=>bg zz=(ji (cv c)).1) (dW c):=⟨fun hp w hw=>(ZK w c (hc.h w hw) hp).mono fun e w' ⟨x,h1,h2,h3⟩=>⟨x,h1,h2,hw.call h3⟩⟩
theorem ZM{w0 w:World}{L:List ai}{f:cB}{a:Sl Rt}(h:Mem w0 (fz f::own ax 19 a.sv a.xs::L) w):Mem w0 (fz (⟨f.ak,a⟩:cB)::L) w:=by
 have h2:=(zS (a:=a) (h.perm (List.Perm.swap _ _ _))).perm (List.Perm.swap _ _ _)
 refine Mem.freeze (es:=[fz f,fz a]) (⟨f.ak,a⟩:cB) ⟨(h2.sat (fz f) (by simp)).1,h2.sat (fz a) (by simp)⟩ (fun k hk=> ?_) h2
 rcases hk with hk|hk
 ·
  exact⟨fz f,by simp, .inl hk⟩
 ·
  exact⟨fz a,by simp,hk⟩
theorem ZN(w:World)(f:cB)(hf:Deep.bb (hp w) f)(bc:dW f.ak.ae∧f.ak.at_.xs.length≤1000000∧f.table.xs.length≤1000000):Calls Tryz.prog 75 #[.agg (bU f)] w fun e w'=> ∃zz:cB,e= .returned (.agg (bU zz))∧(bg zz=bg f)∧Mem w [fz zz] w':=by
 have AB:cm w f:=⟨hf⟩
 obtain⟨kP,je,og⟩:=bc
 refine ba (args:=[_]) Tryz.func75 rfl Tryz.ntmps75 rfl ?_
 change Cw _ _ _ _ _ [(0, .agg (bU f))] []
 refine Gc ?_
 refine bY rfl fun b1=> ?_
 refine bH fun b2=> ?_
 refine Gc ?_
 iterate 2 refine Gs ?_
 refine ag (gD rfl) ?_
 refine bo rfl kP fun x6 M1=> ?_
 iterate 2 refine Gs ?_
 refine yW (cs':=bU ({f with ak:=({f.ak with ae:=x6}:bO)}:cB)) rfl rfl (by show 0+6≤10;decide) rfl ?_
 refine Gc ?_
 iterate 3 refine Gs ?_
 refine bo rfl je fun p0 Ht=> ?_
 iterate 2 refine Gs ?_
 refine eV (cs':=bU ({f with ak:=({f.ak with ae:=x6,at_:=⟨p0,f.ak.at_.xs⟩}:bO)}:cB)) rfl rfl (by show 6<10;decide) (by first|rfl|exact Sv.one _) rfl ?_
 refine Gc ?_
 iterate 2 refine Gs ?_
 refine bo rfl og fun fO Aq=> ?_
 refine Gs ?_
 refine eV (cs':=bU (⟨({f.ak with ae:=x6,at_:=⟨p0,f.ak.at_.xs⟩}:bO),⟨fO,f.table.xs⟩⟩:cB)) rfl rfl (by show 9<10;decide) (by first|rfl|exact Sv.one _) rfl ?_
 refine Gc ?_
 iterate 2 refine Gs ?_
 refine Gc ?_
 refine aq (.inl rfl) (aJ rfl (cf rfl)) (fun w1 hw=> ?_)
 exact⟨(⟨({f.ak with ae:=x6,at_:=⟨p0,f.ak.at_.xs⟩}:bO),⟨fO,f.table.xs⟩⟩:cB),rfl,by simp only[bg,vv,M1],MO (f:=(⟨({f.ak with ae:=x6,at_:=⟨p0,f.ak.at_.xs⟩}:bO),⟨fO,f.table.xs⟩⟩:cB)) (ah.mem hw)⟩
instance aj3{w0:World}{L:List ai}{f:cB}[hf:aW w0 L f]:cn Tryz.prog 75 w0 L [.agg (bU f)] (cB) (fun zz=> .agg (bU zz)) (fun zz=>fz zz::L) (fun zz=>bg zz=bg f) (dW f.ak.ae∧f.ak.at_.xs.length≤1000000∧f.table.xs.length≤1000000):=⟨fun hp w hw=>(ZN w f (hf.h w hw) hp).mono fun e w' ⟨x,h1,h2,h3⟩=>⟨x,h1,h2,hw.call h3⟩⟩
end Go.Proofs.YtaipiecplldinaaGreat
namespace Go.Kb
open Go.aA
theorem NY{p q:cJ}(h:dL p q=true):cq p=true∧cq q=true:=by
 simp only[dL,Bool.and_eq_true]at h
 exact⟨h.1.1,h.1.2⟩
theorem ZO{p q r:cJ}(h:dL p q=true)(h':dL q r=true):dL p r=true:=by
 obtain⟨hp,hq⟩:=NY h
 obtain⟨_,hr⟩:=NY h'
 rw[lV hp hq]at h
 rw[lV hq hr]at h'
 rw[lV hp hr]
 omega
def tok(ps:List cJ):Prop:=ps.length≤256∧(∀p∈ps,cq p=true)∧ps.Pairwise fun p q=>dL p q=true
theorem NZ(xs:List Rt): ∀n,n≤xs.length→(qn xs n=true↔(∀p∈(xs.take n).map (·.p),cq p=true)∧((xs.take n).map (·.p)).Pairwise fun p q=>dL p q=true)
 |0,_=>by simp[JS]
 |n+1,h=>by
  obtain⟨r,hr⟩:=get_some (xs:=xs) (i:=n) (by omega)
  have e:xs.take (n+1)=xs.take n++[r]:=by rw[List.take_add_one,hr];rfl
  rw[EP,Bool.and_eq_true,NZ xs n (by omega),e,List.map_append,List.pairwise_append]
  simp only[List.map_cons,List.map_nil,List.mem_append,List.mem_singleton,List.pairwise_cons,List.not_mem_nil,false_implies,implies_true,List.Pairwise.nil,and_self,true_and,and_true]
  cases n with
  |zero=>rw[ER hr];simp
  |succ m=>
   obtain⟨q,hq⟩:=get_some (xs:=xs) (i:=m) (by omega)
   rw[BL hr hq,Bool.and_eq_true]
   have e2:xs.take (m+1)=xs.take m++[q]:=by rw[List.take_add_one,hq];rfl
   constructor
   ·
    rintro⟨⟨h1,h2⟩,h3,h4⟩
    refine⟨fun p hp=>hp.elim (h1 p) (fun e=>e▸h3),h2,fun p hp b hb=> ?_⟩
    subst hb
    rw[e2,List.map_append]at hp h2
    rcases List.mem_append.1 hp with hp|hp
    ·
     have:=(List.pairwise_append.1 h2).2.2 p hp q.p (by simp)
     exact ZO this h4
    ·
     have:p=q.p:=by simpa using hp
     rw[this];exact h4
   ·
    rintro⟨h1,h2,h3⟩
    refine⟨⟨fun p hp=>h1 p (.inl hp),h2⟩,h1 _ (.inr rfl),h3 q.p ?_ _ rfl⟩
    rw[e2];simp
theorem ZP(xs:List Rt):cr xs=true↔tok (xs.map (·.p)):=by
 rw[cr,Bool.and_eq_true,NZ xs _ (Nat.le_refl _),List.take_length,decide_eq_true_iff]
 simp[tok]
theorem ZQ{xs:List Rt}(h:cr xs=true): ∀r∈xs,cq r.p=true:=fun r hr=>((ZP xs).1 h).2.1 r.p (List.mem_map_of_mem hr)
theorem ZR{r:Rt}(h:cq r.p=true):rd (eP r)=some r:=by
 obtain⟨h1,h2,h3,-⟩:=(pw r.p).1 h
 have e0:(eP r).getD 0 0=if r.p.bits=128 then 1 else 0:=by simp[List.getD,KX]
 have e1:(eP r).getD 1 0=cU r.p.len:=by simp[List.getD,KY]
 have Du:(eP r).getD 18 0=b8 (r.dK.toNat/256):=by simp[List.getD,K0]
 have N1:(eP r).getD 19 0=b8 r.dK.toNat:=by simp[List.getD,K1]
 have ok:oc (eP r)=true:=by
  rw[oc,e0];split<;>decide
 rw[Mg,if_pos ok]
 congr 1
 obtain⟨⟨b,l,k⟩,dK⟩:=r
 simp only at h1 h2 h3 e0 e1 Du N1
 have ek:(oF fun i=>((eP ⟨⟨b,l,k⟩,dK⟩).getD (2+i) 0).toNat)=k:=by
  refine zb fun i hi=> ?_
  rw[zd _ _ hi]
  simp only[List.getD,KZ _ i hi,Option.getD_some,qj]
  have:=oE k i
  omega
 have el:((cU l).toNat:Int)=l:=by
  obtain⟨n,rfl⟩: ∃n:Nat,l=n:=⟨l.toNat,by omega⟩
  rw[TH,qj];omega
 have eh:rk (b8 (dK.toNat/256)) (b8 dK.toNat)=dK:=by
  apply UInt16.toNat_inj.1
  have:=dK.toNat_lt
  rw[EJ,qj,qj];omega
 show(⟨⟨if(eP ⟨⟨b,l,k⟩,dK⟩).getD 0 0=1 then 128 else 32,((eP ⟨⟨b,l,k⟩,dK⟩).getD 1 0).toNat,oF fun i=>((eP ⟨⟨b,l,k⟩,dK⟩).getD (2+i) 0).toNat⟩,rk ((eP ⟨⟨b,l,k⟩,dK⟩).getD 18 0) ((eP ⟨⟨b,l,k⟩,dK⟩).getD 19 0)⟩:Rt)=_
 rw[ek,e0,e1,Du,N1,el,eh]
 congr 2
 rcases h1 with rfl|rfl<;>simp
theorem N2: ∀{l:List Rt},(∀r∈l,cq r.p=true)→lG (l.flatMap eP)=some l
 |[],_=>Gt
 |r::l,h=>by
  rw[List.flatMap_cons,Gu (by rw[List.length_append,oN];omega),List.take_left' (oN r),List.drop_left' (oN r),ZR (h r (by simp)),N2 fun r hr=>h r (by simp[hr])]
  rfl
theorem N3{t:List Rt}(n:Nat)(h: ∀r∈t,cq r.p=true): ∀k,fU (kN t k n)=some (t.take (k*n))
 |0=>by simp[kN,fU]
 |k+1=>by
  rw[UG,CQ,N3 n h k,Option.bind_some,fU,fU,pQ,N2 fun r hr=>h r (List.mem_of_mem_drop (List.mem_of_mem_take hr))]
  simp only[Option.map_some,Option.bind_some,List.append_nil,Option.some.injEq]
  rw[Nat.add_mul,Nat.one_mul,List.take_add]
theorem N4{t:List Rt}{ids room:Int}(h:jv t ids room=0):iD (ka t ids room)=t∧jh (ka t ids room)=0:=by
 obtain⟨h1,h2,h3⟩: ¬iC ids room=0∧cr t=true∧ ¬iC ids room<t.length:=by
  unfold jv at h
  split at h
  ·
   cases h
  ·
   rename_i hn
   split at h
   ·
    cases h
   ·
    rename_i hm
    exact⟨fun e=>hn (.inr e),by cases hr:cr t;exact absurd (.inl hr) hn;rfl,hm⟩
 have hm:=CP h1
 obtain⟨_,hV⟩:=Gy h1 h2 h3
 have oY:ids*(room/20)=((ids.toNat*(room/20).toNat:Nat):Int):=by
  rw[Int.natCast_mul,Int.toNat_of_nonneg (by omega),Int.toNat_of_nonneg (by omega)]
 have hu:fU (ka t ids room)=some t:=by
  rw[hV,N3 _ (ZQ h2),List.take_of_length_le (by omega)]
 exact Gx hu h2
theorem HP{t:List Rt}{ids room:Int}(h:jv t ids room=0): ¬iC ids room=0∧cr t=true∧ ¬iC ids room<t.length∧ka t ids room=kN t ids.toNat (room/20).toNat:=by
 unfold jv at h
 split at h
 ·
  cases h
 ·
  rename_i hn
  split at h
  ·
   cases h
  ·
   rename_i hm
   have h1: ¬iC ids room=0:=fun e=>hn (.inr e)
   have h2:cr t=true:=by cases hr:cr t;exact absurd (.inl hr) hn;rfl
   exact⟨h1,h2,hm,(Gy h1 h2 hm).2⟩
theorem ZS{t:List Rt}{ids room:Int}(h: ¬jv t ids room=0):ka t ids room=[]:=by rw[ka,if_neg h]
theorem AD{t:List Rt}{ids room:Int}(h:jv t ids room=0):((ka t ids room).length:Int)=ids∧1≤ids∧ids≤64:=by
 obtain⟨h1,_,_,hV⟩:=HP h
 have:=CP h1
 rw[hV,tX];omega
theorem ZT{t:List Rt}{ids room:Int}:(ka t ids room).length≤64∧ ∀x∈ka t ids room,x.length≤240:=by
 by_cases h:jv t ids room=0
 ·
  have h2:=AD h
  obtain⟨h1,_,_,hV⟩:=HP h
  have hm:=CP h1
  refine⟨by omega,fun x hx=> ?_⟩
  rw[hV]at hx
  obtain⟨j,_,rfl⟩:=List.mem_map.1 hx
  have:=Gr t (room/20).toNat j
  omega
 ·
  rw[ZS h];simp
theorem N5(a:List (List UInt8)):eG a a=[]:=by
 rw[eG,mM,List.filterMap_eq_nil_iff]
 intro i _
 rw[rK,if_pos rfl]
theorem ZU{a b:List (List UInt8)}(hl:a.length=b.length):eG a b=[]↔a=b:=by
 refine⟨fun h=> ?_,fun h=>by rw[h,N5]⟩
 rw[eG,mM,List.filterMap_eq_nil_iff,hl,Nat.max_self]at h
 refine List.ext_getElem? fun i=> ?_
 by_cases hi:i<b.length
 ·
  have:=h i (List.mem_range.2 hi)
  unfold rK at this
  split at this
  ·
   rename_i he
   rw[List.getElem?_eq_getElem (by omega),List.getElem?_eq_getElem hi]
   simpa[List.getD,hi,show i<a.length by omega]using he
  ·
   cases this
 ·
  rw[List.getElem?_eq_none (by omega),List.getElem?_eq_none (by omega)]
theorem HQ{a b:List (List UInt8)}{n:Nat}{p:Int×List UInt8}(h:p∈mM a b n): ∃i:Nat,i<n∧p=((i:Int),b.getD i [])∧ ¬a.getD i []=b.getD i []:=by
 rw[mM,List.mem_filterMap]at h
 obtain⟨i,hi,he⟩:=h
 unfold rK at he
 split at he
 ·
  cases he
 ·
  rename_i hn
  exact⟨i,List.mem_range.1 hi,(Option.some.inj he).symm,hn⟩
theorem Dy(a b:List (List UInt8)): ∀n,(mM a b n).Pairwise fun p q=>p.1<q.1
 |0=>List.Pairwise.nil
 |n+1=>by
  by_cases h:a.getD n []=b.getD n []
  ·
   rw[Me h];exact Dy a b n
  ·
   rw[Mf h,List.pairwise_append]
   refine⟨Dy a b n,List.pairwise_singleton _ _,fun p hp q hq=> ?_⟩
   obtain⟨i,hi,rfl,_⟩:=HQ hp
   obtain rfl:=List.mem_singleton.1 hq
   simp only;omega
end Go.Kb
namespace Go.Proofs.YtaipiecplldinaaGreat
open Go.aA Go.Kb
open Go.RowKit
theorem ZV(w:World)(f:cB)(l:Sv)(ls:List Ch)(hf:Deep.bb (hp w) f)(hl:bQ fN 20 (hp w) l ls)(bc:dW f.ak.ae∧f.ak.at_.xs.length≤1000000∧f.table.xs.length≤1000000):Calls Tryz.prog 35 #[.agg (bU f),l.val] w fun e w'=> ∃zz:cB,e= .returned (.tuple #[.agg (bU zz), .int .i64 ((cC (bg f) ls).2)])∧(bg zz=(cC (bg f) ls).1)∧Mem w [fz zz] w':=by
 have AB:cm w f:=⟨hf⟩
 have oX:Gv w l fN 20 ls:=⟨hl⟩
 have wk:=bc
 obtain⟨kP,je,og⟩:=bc
 refine ba (args:=[_,_]) Tryz.func35 rfl Tryz.ntmps35 rfl ?_
 change Cw _ _ _ _ _ [(0, .agg (bU f)),(1,l.val)] []
 refine Gc ?_
 refine bY rfl fun b2=> ?_
 refine bH fun b4=> ?_
 refine Gs ?_
 refine Gc ?_
 refine Gs ?_
 refine bo rfl trivial fun HR ZW=> ?_
 refine Gs ?_
 refine ag (aU (v:=HR.sv.val) rfl rfl) ?_
 refine ag (aU (v:= .bool (gx (bg f))) rfl rfl) ?_
 iterate 2 refine Gs ?_
 refine Gc ?_
 iterate 2 refine Gs ?_
 refine Gc ?_
 refine au rfl (fun h0=> ?_) (fun h0=> ?_)
 ·
  replace h0:=bz h0
  have hE:(cC (bg f) ls)=(bg f,1):=Vn h0
  refine Gc ?_
  refine Gs ?_
  refine bo rfl wk fun jy Hl=> ?_
  iterate 2 refine Gs ?_
  refine Gc ?_
  refine aq (.inl rfl) (bq rfl (cf rfl) (al rfl)) (fun w1 hw=> ?_)
  exact⟨jy,by rw[hE],by rw[hE];exact Hl,ah.mem hw⟩
 ·
  replace h0:=bz h0
  have vP:lx HR=ez (bg f):=ZW h0
  refine Gc ?_
  iterate 3 refine Gs ?_
  refine bo rfl og fun kx qP=> ?_
  refine Gs ?_
  refine ag (aU (v:=kx.val) rfl rfl) ?_
  refine ag (aU (v:= .int .i64 (dA f.table.xs ls)) rfl rfl) ?_
  iterate 2 refine Gs ?_
  refine Gc ?_
  iterate 2 refine Gs ?_
  refine Gc ?_
  refine au rfl (fun h1=> ?_) (fun h1=> ?_)
  ·
   replace h1:=bz h1
   have hE:(cC (bg f) ls)=(bg f,dA f.table.xs ls):=MR h0 h1
   refine Gc ?_
   refine Gs ?_
   refine bo rfl wk fun az sX=> ?_
   iterate 3 refine Gs ?_
   refine Gc ?_
   refine aq (.inl rfl) (bq rfl (cf rfl) (al rfl)) (fun w1 hw=> ?_)
   exact⟨az,by rw[hE],by rw[hE];exact sX,ah.mem hw⟩
  ·
   replace h1:=bz h1
   refine Gc ?_
   refine jE [10] [[],[],[],[],[],[],[],[],[],[],[],[10],[10],[10],[10],[10]] [0,1,2,3,4,5,6,7,8,9,10,11,12,13,14,15] _ (fun _ hw=>hw) (by kernel_rfl) (by kernel_rfl) ?_
   refine an rfl (aE rfl) ?_
   refine an rfl (aI (o':=0) rfl rfl) ?_
   refine an rfl (aI (o':=0) rfl rfl) ?_
   refine an rfl (gD rfl) ?_
   refine vm rfl (cE rfl trivial) ?_
   refine an rfl (aI (o':=0) rfl rfl) ?_
   refine an rfl (aI (o':=0) rfl rfl) ?_
   refine an rfl (aI (o':=1) rfl rfl) ?_
   refine an rfl (bJ rfl) ?_
   refine vm rfl (cE rfl trivial) ?_
   refine dN rfl (nZ rfl trivial fun qS NU=>⟨fun _ hw=>ah.mem hw,?_⟩)
   refine an rfl (aE rfl) ?_
   refine an rfl (aU (v:=qS.sv.val) rfl rfl) ?_
   refine an rfl (aU (v:= .int .i64 (jv (cj f.table.xs ls) (dh (cv f.ak.ae)) (dC f.ak.ae.size))) rfl rfl) ?_
   refine an rfl (bp rfl) ?_
   refine an rfl (bp rfl) ?_
   refine Gc ?_
   iterate 2 refine Gs ?_
   refine Gc ?_
   refine au rfl (fun h2=> ?_) (fun h2=> ?_)
   ·
    replace h2:=bz h2
    have hE:(cC (bg f) ls)=(bg f,(jv (cj f.table.xs ls) (dh (cv f.ak.ae)) (dC f.ak.ae.size))):=MS h0 h1 h2
    refine Gc ?_
    refine Gs ?_
    refine bo rfl wk fun ZX ZY=> ?_
    iterate 3 refine Gs ?_
    refine Gc ?_
    refine aq (.inl rfl) (bq rfl (cf rfl) (al rfl)) (fun w1 hw=> ?_)
    exact⟨ZX,by rw[hE],by rw[hE];exact ZY,ah.mem hw⟩
   ·
    replace h2:=bz h2
    have ny:lx qS=du (bg f) ls:=NU
    have xI:(ez (bg f)).length≤64:=Vm _
    have HH:HR.xs.length≤1000000:=by rw[←vP,vc]at xI;omega
    have Dq:(du (bg f) ls).length≤64∧ ∀x∈du (bg f) ls,x.length≤240:=ZT
    have ZZ:qS.xs.length≤1000000:=by have:=Dq.1;rw[←ny,vc]at this;omega
    have aaa: ∀x∈qS.xs,x.xs.length≤140737488355328:=fun x hx=>by
     have hm:x.xs∈lx qS:=List.mem_map_of_mem (f:=fun x:Sl UInt8=>x.xs) hx
     rw[ny]at hm
     have:=Dq.2 _ hm;omega
    refine Gc ?_
    iterate 2 refine Gs ?_
    refine bo rfl ⟨HH,ZZ,aaa⟩ fun p6 N6=> ?_
    refine Gs ?_
    refine Gc ?_
    iterate 3 refine Gs ?_
    refine Gc ?_
    refine au rfl (fun h3=> ?_) (fun h3=> ?_)
    ·
     replace h3:=bz h3
     have AE:eG (ez (bg f)) (du (bg f) ls)=[]:=by rw[←vP,←ny,←N6,vg,List.length_eq_zero_iff.1 (by omega:p6.xs.length=0)];rfl
     have hE:(cC (bg f) ls)=(⟨(bg f).ak,(cj f.table.xs ls)⟩,0):=MT h0 h1 h2 AE
     refine Gc ?_
     refine Gs ?_
     refine bo rfl wk fun Dz aab=> ?_
     refine Gs ?_
     refine Gc ?_
     iterate 2 refine Gs ?_
     refine eV (cs':=bU (⟨Dz.ak,⟨kx,(cj f.table.xs ls)⟩⟩:cB)) rfl rfl (by show 9<10;decide) (by first|rfl|exact Sv.one _) rfl ?_
     refine Gc ?_
     iterate 3 refine Gs ?_
     refine Gc ?_
     refine aq (.inl rfl) (bq rfl (cf rfl) (al rfl)) (fun w1 hw=> ?_)
     exact⟨(⟨Dz.ak,⟨kx,(cj f.table.xs ls)⟩⟩:cB),by rw[hE],by rw[hE,←aab];rfl,ZM (f:=Dz) (ah.mem hw:Mem w [fz Dz,own ax 19 kx (cj f.table.xs ls)] _)⟩
    ·
     replace h3:=bz h3
     have AE:eG (ez (bg f)) (du (bg f) ls)=p6.xs.map bt:=by rw[←vP,←ny,←N6];rfl
     have h3n: ¬eG (ez (bg f)) (du (bg f) ls)=[]:=by rw[AE];intro h;have:=congrArg List.length h;rw[List.length_map,List.length_nil]at this;omega
     have aac:p6.xs.length≤1000000:=by have:=congrArg List.length AE;have hq:=CS (ez (bg f)) (du (bg f) ls) (max (ez (bg f)).length (du (bg f) ls).length);rw[List.length_map]at this;have h7:=Dq.1;rw[eG]at this;omega
     have s8:=C3 h0 h1 h2 h3n
     rw[AE]at s8
     refine Gc ?_
     refine Gs ?_
     refine ag (gD rfl) ?_
     refine Gs ?_
     refine bo rfl ⟨kP,je,aac⟩ fun eO Hk=> ?_
     refine Gs ?_
     refine ag (aU (v:= .agg (bI (⟨eO.1,eO.2.1,eO.2.2.1,eO.2.2.2⟩:bO))) rfl rfl) ?_
     refine ag (aU (v:= .int .i64 ((fy (vv f.ak) (p6.xs.map bt)).2)) rfl rfl) ?_
     refine bH fun uj=> ?_
     iterate 2 refine Gs ?_
     refine Gc ?_
     iterate 2 refine Gs ?_
     refine Gc ?_
     refine au rfl (fun h4=> ?_) (fun h4=> ?_)
     ·
      replace h4:=bz h4
      have hE:(cC (bg f) ls)=(⟨(fy (vv f.ak) (p6.xs.map bt)).1,f.table.xs⟩,(fy (vv f.ak) (p6.xs.map bt)).2):=s8.trans (congrArg (fun z=>((⟨(fy (vv f.ak) (p6.xs.map bt)).1,z⟩:FV),(fy (vv f.ak) (p6.xs.map bt)).2)) (if_pos h4))
      refine Gi ?_
      iterate 2 refine Gs ?_
      refine bo rfl og fun ym aj4=> ?_
      refine Gs ?_
      refine Gc ?_
      iterate 2 refine Gs ?_
      refine ag (cS (v:= .agg (bU (⟨(⟨eO.1,eO.2.1,eO.2.2.1,eO.2.2.2⟩:bO),⟨ym,f.table.xs⟩⟩:cB))) rfl (HM (⟨eO.1,eO.2.1,eO.2.2.1,eO.2.2.2⟩:bO) ⟨ym,f.table.xs⟩)) ?_
      iterate 3 refine Gs ?_
      refine Gc ?_
      refine aq (.inl rfl) (bq rfl (cf rfl) (al rfl)) (fun w1 hw=> ?_)
      exact⟨(⟨(⟨eO.1,eO.2.1,eO.2.2.1,eO.2.2.2⟩:bO),⟨ym,f.table.xs⟩⟩:cB),by rw[hE],by rw[hE];simp only[bg,vv,Hk],C0 (f:=(⟨(⟨eO.1,eO.2.1,eO.2.2.1,eO.2.2.2⟩:bO),⟨ym,f.table.xs⟩⟩:cB)) (ah.mem (zS (a:=(⟨ym,f.table.xs⟩:Sl Rt)) (ah.mem hw:Mem w [own ax 19 ym f.table.xs,fz eO.1,fz eO.2.1] _)))⟩
     ·
      replace h4:=bz h4
      have hE:(cC (bg f) ls)=(⟨(fy (vv f.ak) (p6.xs.map bt)).1,(cj f.table.xs ls)⟩,(fy (vv f.ak) (p6.xs.map bt)).2):=s8.trans (congrArg (fun z=>((⟨(fy (vv f.ak) (p6.xs.map bt)).1,z⟩:FV),(fy (vv f.ak) (p6.xs.map bt)).2)) (if_neg (fun h=>h h4)))
      refine Gc ?_
      iterate 2 refine Gs ?_
      refine ag (cS (v:= .agg (bU (⟨(⟨eO.1,eO.2.1,eO.2.2.1,eO.2.2.2⟩:bO),⟨kx,(cj f.table.xs ls)⟩⟩:cB))) rfl (HM (⟨eO.1,eO.2.1,eO.2.2.1,eO.2.2.2⟩:bO) ⟨kx,(cj f.table.xs ls)⟩)) ?_
      iterate 3 refine Gs ?_
      refine Gc ?_
      refine aq (.inl rfl) (bq rfl (cf rfl) (al rfl)) (fun w1 hw=> ?_)
      exact⟨(⟨(⟨eO.1,eO.2.1,eO.2.2.1,eO.2.2.2⟩:bO),⟨kx,(cj f.table.xs ls)⟩⟩:cB),by rw[hE],by rw[hE];simp only[bg,vv,Hk],C0 (f:=(⟨(⟨eO.1,eO.2.1,eO.2.2.1,eO.2.2.2⟩:bO),⟨kx,(cj f.table.xs ls)⟩⟩:cB)) (ah.mem (zS (a:=(⟨kx,(cj f.table.xs ls)⟩:Sl Rt)) (ah.mem hw:Mem w [own ax 19 kx (cj f.table.xs ls),fz eO.1,fz eO.2.1] _)))⟩
instance aj5{w0:World}{L:List ai}{f:cB}{l:Sv}{ls:List Ch}[hf:aW w0 L f][hl:df w0 L fN 20 l ls]:cn Tryz.prog 35 w0 L [.agg (bU f),l.val] (cB) (fun zz=> .tuple #[.agg (bU zz), .int .i64 ((cC (bg f) ls).2)]) (fun zz=>fz zz::L) (fun zz=>bg zz=(cC (bg f) ls).1) (dW f.ak.ae∧f.ak.at_.xs.length≤1000000∧f.table.xs.length≤1000000):=⟨fun hp w hw=>(ZV w f l ls (hf.h w hw) (hl.h w hw) hp).mono fun e w' ⟨x,h1,h2,h3⟩=>⟨x,h1,h2,hw.call h3⟩⟩
open Go.aA Go.Kb
open Go.RowKit
open Go.aA Go.Kb
open Go.RowKit
theorem aj6(w:World)(x:Sv)(xs:List Int)(n:Int)(hx:bQ bK 1 (hp w) x xs):Calls Tryz.prog 95 #[x.val, .int .i64 n] w fun e w'=>e= .returned (.bool (xs.contains n))∧Mem w [] w':=by
 have uh:Gv w x bK 1 xs:=⟨hx⟩
 have jc:=hx.bd
 refine ba (args:=[_,_]) Tryz.func95 rfl Tryz.ntmps95 rfl ?_
 change Cw _ _ _ _ _ [(0,x.val),(1, .int .i64 n)] []
 refine Gc ?_
 refine Gs ?_
 refine Gc ?_
 refine Gs ?_
 refine Gc ?_
 refine cc (X:=Nat) (fun zz=>[(5, .int .i64 (zz:Nat)),(0,x.val),(1, .int .i64 n)]) (fun zz=>[]) (fun zz=>zz≤xs.length∧ ∀j y,j<zz→xs[j]? =Option.some y→y≠n) (fun zz=>xs.length -zz) 0 ⟨Nat.zero_le _,fun j y hj=>by first|omega|(simp only[];omega)⟩ (Sub.cons rfl (Sub.cons rfl (Sub.cons rfl (Sub.nil _)))) (fun w hw=>ah.mem hw) ?_
 rintro i ⟨bj,aH⟩
 refine Gc ?_
 iterate 4 refine Gs ?_
 refine Gc ?_
 refine au rfl (fun h0=> ?_) (fun h0=> ?_)
 ·
  replace h0:=bz h0
  refine Gc ?_
  iterate 2 refine Gs ?_
  obtain⟨y,hy⟩:=get_some (xs:=xs) (i:=i) (by omega)
  refine ag (bk rfl rfl i rfl (by omega)) ?_
  refine ag (bP (j:=0) rfl i hy rfl (by decide)) ?_
  iterate 2 refine Gs ?_
  refine Gc ?_
  refine au rfl (fun h1=> ?_) (fun h1=> ?_)
  ·
   replace h1:=bz h1
   have hz:xs.contains n=true:=by rw[List.contains_eq_mem,decide_eq_true_eq,←h1];exact List.mem_of_getElem? hy
   refine Gc ?_
   refine Gs ?_
   refine Gc ?_
   refine aq (.inl rfl) (aJ rfl (al rfl)) (fun w1 hw=> ?_)
   exact⟨congrArg (fun b=>Ending.returned (Value.bool b)) (hz.symm),ah.mem hw⟩
  ·
   replace h1:=bz h1
   refine Gc ?_
   iterate 3 refine Gs ?_
   refine Gi ?_
   exact bA (x:=(i)) (i+1) ⟨by first|omega|(simp only[];omega),fun j z hj hz=>if e:j=i then(by subst e;rw[hy]at hz;cases hz;exact h1)else aH j z (by first|omega|(simp only[];omega)) hz⟩ (by first|omega|(simp only[];omega)) (Sub.cons rfl (Sub.cons rfl (Sub.cons rfl (Sub.nil _)))) (fun w hw=>ah.mem hw)
 ·
  replace h0:=bz h0
  obtain rfl:i=xs.length:=by omega
  have hz:xs.contains n=false:=by
   rw[List.contains_eq_mem,decide_eq_false_iff_not]
   intro hm
   obtain⟨j,hj⟩:=List.getElem?_of_mem hm
   exact aH j n (List.getElem?_eq_some_iff.1 hj).1 hj rfl
  refine Gc ?_
  refine Gs ?_
  refine Gc ?_
  refine aq (.inl rfl) (aJ rfl (al rfl)) (fun w1 hw=> ?_)
  exact⟨congrArg (fun b=>Ending.returned (Value.bool b)) (hz.symm),ah.mem hw⟩
theorem aad(w:World)(x:Sv)(xs:List Int)(y:Sv)(ys:List Int)(hx:bQ bK 1 (hp w) x xs)(hy:bQ bK 1 (hp w) y ys):Calls Tryz.prog 48 #[x.val,y.val] w fun e w'=>e= .returned (.bool (decide (xs=ys)))∧Mem w [] w':=by
 have uh:Gv w x bK 1 xs:=⟨hx⟩
 have G6:Gv w y bK 1 ys:=⟨hy⟩
 have Nc:=hx.bd
 refine ba (args:=[_,_]) Tryz.func48 rfl Tryz.ntmps48 rfl ?_
 change Cw _ _ _ _ _ [(0,x.val),(1,y.val)] []
 refine Gc ?_
 refine Gs ?_
 refine Gc ?_
 iterate 5 refine Gs ?_
 refine Gc ?_
 refine au rfl (fun h0=> ?_) (fun h0=> ?_)
 ·
  replace h0:=bz h0
  have hz:decide (xs=ys)=false:=decide_eq_false fun e=>h0 (by rw[e])
  refine Gc ?_
  refine Gs ?_
  refine Gc ?_
  refine aq (.inl rfl) (aJ rfl (al rfl)) (fun w1 hw=> ?_)
  exact⟨congrArg (fun b=>Ending.returned (Value.bool b)) (hz.symm),ah.mem hw⟩
 ·
  replace h0:=bz h0
  have lZ:xs.length=ys.length:=by omega
  refine Gc ?_
  refine Gs ?_
  refine Gc ?_
  refine cc (X:=Nat) (fun zz=>[(5, .int .i64 (zz:Nat)),(0,x.val),(1,y.val)]) (fun zz=>[]) (fun zz=>zz≤xs.length∧ ∀j,j<zz→xs[j]? =ys[j]?) (fun zz=>xs.length -zz) 0 ⟨Nat.zero_le _,fun j hj=>by first|omega|(simp only[];omega)⟩ (Sub.cons rfl (Sub.cons rfl (Sub.cons rfl (Sub.nil _)))) (fun w hw=>ah.mem hw) ?_
  rintro i ⟨bj,aH⟩
  refine Gc ?_
  iterate 4 refine Gs ?_
  refine Gc ?_
  refine au rfl (fun h1=> ?_) (fun h1=> ?_)
  ·
   replace h1:=bz h1
   obtain⟨p,iR⟩:=get_some (xs:=xs) (i:=i) (by omega)
   obtain⟨q,om⟩:=get_some (xs:=ys) (i:=i) (by omega)
   refine Gc ?_
   refine hG (by kernel_rfl) (by kernel_rfl) ?_
   iterate 2 refine Gq ?_
   refine bf (bk rfl rfl i rfl (by omega)) ?_
   refine bf (bP (j:=0) rfl i iR rfl (by decide)) ?_
   iterate 2 refine Gq ?_
   refine bf (bk rfl rfl i rfl (by omega)) ?_
   refine bf (bP (j:=0) rfl i om rfl (by decide)) ?_
   refine Gq ?_
   refine Gc ?_
   refine au rfl (fun h2=> ?_) (fun h2=> ?_)
   ·
    replace h2:=bz h2
    have hz:decide (xs=ys)=false:=decide_eq_false fun e=>h2 (by rw[e]at iR;rw[iR]at om;cases om;rfl)
    refine Gc ?_
    refine Gs ?_
    refine Gc ?_
    refine aq (.inl rfl) (aJ rfl (al rfl)) (fun w1 hw=> ?_)
    exact⟨congrArg (fun b=>Ending.returned (Value.bool b)) (hz.symm),ah.mem hw⟩
   ·
    replace h2:=bz h2
    refine Gc ?_
    iterate 3 refine Gs ?_
    refine Gi ?_
    exact bA (x:=(i)) (i+1) ⟨by first|omega|(simp only[];omega),fun j hj=>if e:j=i then(by subst e;rw[iR,om,h2])else aH j (by first|omega|(simp only[];omega))⟩ (by first|omega|(simp only[];omega)) (Sub.cons rfl (Sub.cons rfl (Sub.cons rfl (Sub.nil _)))) (fun w hw=>ah.mem hw)
  ·
   replace h1:=bz h1
   obtain rfl:i=xs.length:=by omega
   have hz:decide (xs=ys)=true:=decide_eq_true (CN lZ aH)
   refine Gc ?_
   refine Gs ?_
   refine Gc ?_
   refine aq (.inl rfl) (aJ rfl (al rfl)) (fun w1 hw=> ?_)
   exact⟨congrArg (fun b=>Ending.returned (Value.bool b)) (hz.symm),ah.mem hw⟩
instance aj7{w0:World}{L:List ai}{x:Sv}{xs:List Int}{y:Sv}{ys:List Int}[hx:df w0 L bK 1 x xs][hy:df w0 L bK 1 y ys]:cI Tryz.prog 48 w0 L [x.val,y.val] (.bool (decide (xs=ys))) (True):=⟨fun hp w hw=>aad w x xs y ys (hx.h w hw) (hy.h w hw)⟩
open Go.aA Go.Kb
open Go.RowKit
theorem aj8(w:World)(c:Cp)(hc:Deep.bb (hp w) c):Calls Tryz.prog 93 #[.agg (aD c)] w fun e w'=>e= .returned (.bool (aV (cv c)))∧Mem w [] w':=by
 have ke:cm w c:=⟨hc⟩
 have dz:=fB c.blocks.xs
 have bR:aV (cv c)=true↔pC c.blocks.xs.length c.pages c.size=true∧0≤c.ops∧c.ops≤cP∧c.aQ.xs.length≤64∧ ∀b∈gF c.blocks.xs,mE c.pages c.size b=true:=by rw[eZ];simp only[cv,dz]
 have oO:cP=1099511627776:=rfl
 refine ba (args:=[_]) Tryz.func93 rfl Tryz.ntmps93 rfl ?_
 change Cw _ _ _ _ _ [(0, .agg (aD c))] []
 refine Gc ?_
 refine bY rfl fun b1=> ?_
 refine Gs ?_
 refine Gc ?_
 iterate 4 refine Gs ?_
 iterate 3 refine Gg ?_
 iterate 2 refine Gs ?_
 iterate 3 refine Gg ?_
 iterate 2 refine Gs ?_
 iterate 3 refine Gg ?_
 iterate 2 refine Gs ?_
 iterate 4 refine Gg ?_
 iterate 2 refine Gs ?_
 iterate 4 refine Gg ?_
 iterate 2 refine Gs ?_
 iterate 3 refine Gg ?_
 iterate 2 refine Gs ?_
 iterate 3 refine Gg ?_
 iterate 2 refine Gs ?_
 iterate 4 refine Gg ?_
 refine Gs ?_
 refine Gc ?_
 refine au rfl (fun h0=> ?_) (fun h0=> ?_)
 ·
  replace h0:=bz h0
  have hz:aV (cv c)=false:=by
   cases hk:aV (cv c)with
   |false=>rfl
   |true=>
    have g:=bR.1 hk
    have g2:=jW.1 g.1
    omega
  refine Gc ?_
  refine Gs ?_
  refine Gc ?_
  refine aq (.inl rfl) (aJ rfl (al rfl)) (fun w1 hw=> ?_)
  exact⟨congrArg (fun b=>Ending.returned (Value.bool b)) (hz.symm),ah.mem hw⟩
 ·
  replace h0:=bz h0
  have g0:pC c.blocks.xs.length c.pages c.size=true∧0≤c.ops∧c.ops≤cP∧c.aQ.xs.length≤64:=⟨jW.2 ⟨by omega,by omega,by omega,by omega,by omega,by omega⟩,by omega,by omega,by omega⟩
  have gs:=jW.1 g0.1
  refine Gc ?_
  refine Gs ?_
  refine Gc ?_
  refine cc (X:=Nat) (fun zz=>[(3, .int .i64 (zz:Nat)),(1, .pointer (some ⟨b1,0,none⟩))]) (fun zz=>[ar b1 (aD c) 25]) (fun zz=>zz≤c.blocks.xs.length∧ ∀j b,j<zz→(gF c.blocks.xs)[j]? =Option.some b→mE c.pages c.size b=true) (fun zz=>c.blocks.xs.length -zz) 0 ⟨Nat.zero_le _,fun j b hj=>by first|omega|(simp only[];omega)⟩ (Sub.cons rfl (Sub.cons rfl (Sub.nil _))) (fun w hw=>ah.mem hw) ?_
  rintro i ⟨bj,aH⟩
  refine Gc ?_
  iterate 5 refine Gs ?_
  refine Gc ?_
  refine au rfl (fun h1=> ?_) (fun h1=> ?_)
  ·
   replace h1:=bz h1
   obtain⟨x,hx⟩:=get_some (xs:=c.blocks.xs) (i:=i) (by omega)
   have Ab:Mb x c.blocks:=⟨List.mem_of_getElem? hx⟩
   refine Gc ?_
   iterate 3 refine Gs ?_
   refine ag (bk rfl rfl i rfl (by omega)) ?_
   refine ag (gR rfl i hx rfl) ?_
   have aj9:Mb x c.blocks:=⟨List.mem_of_getElem? hx⟩
   refine bH fun b4=> ?_
   refine Gs ?_
   refine Gc ?_
   iterate 7 refine Gs ?_
   iterate 3 refine Gg ?_
   iterate 2 refine Gs ?_
   iterate 5 refine Gg ?_
   iterate 2 refine Gs ?_
   iterate 3 refine Gg ?_
   iterate 2 refine Gs ?_
   iterate 3 refine Gg ?_
   refine Gs ?_
   refine Gc ?_
   refine au rfl (fun h2=> ?_) (fun h2=> ?_)
   ·
    replace h2:=bz h2
    have hz:aV (cv c)=false:=by
     cases hk:aV (cv c)with
     |false=>rfl
     |true=>
      have g:=dV.1 ((bR.1 hk).2.2.2.2 (bv x) (List.mem_of_getElem? (jn hx)))
      simp only[bv,jF]at g
      omega
    refine Gc ?_
    refine Gs ?_
    refine Gc ?_
    refine aq (.inl rfl) (aJ rfl (al rfl)) (fun w1 hw=> ?_)
    exact⟨congrArg (fun b=>Ending.returned (Value.bool b)) (hz.symm),ah.mem hw⟩
   ·
    replace h2:=bz h2
    refine Gc ?_
    refine Gs ?_
    refine Gc ?_
    refine cc (X:=Nat) (fun zz=>[(5, .int .i64 (zz:Nat)),(1, .pointer (some ⟨b1,0,none⟩)),(3, .int .i64 (i:Nat)),(4, .pointer (some ⟨b4,0,none⟩))]) (fun zz=>[ar b4 (bN x) 48,ar b1 (aD c) 25]) (fun zz=>zz≤x.pages.xs.length∧ ∀k y,k<zz→(bv x).pages[k]? =Option.some y→(y.length:Int)=c.size) (fun zz=>x.pages.xs.length -zz) 0 ⟨Nat.zero_le _,fun k y hk=>by first|omega|(simp only[];omega)⟩ (Sub.cons rfl (Sub.cons rfl (Sub.cons rfl (Sub.cons rfl (Sub.nil _))))) (fun w hw=>ah.mem hw) ?_
    rintro j ⟨iG,dF⟩
    refine Gc ?_
    iterate 5 refine Gs ?_
    refine Gc ?_
    refine au rfl (fun h3=> ?_) (fun h3=> ?_)
    ·
     replace h3:=bz h3
     obtain⟨y,hy⟩:=get_some (xs:=x.pages.xs) (i:=j) (by omega)
     have xL:Mb y x.pages:=⟨List.mem_of_getElem? hy⟩
     refine Gc ?_
     refine hG (by kernel_rfl) (by kernel_rfl) ?_
     iterate 3 refine Gq ?_
     refine bf (bk rfl rfl j rfl (by omega)) ?_
     refine bf (bP (j:=0) rfl j hy rfl (by decide)) ?_
     have aka:Mb y _:=⟨List.mem_of_getElem? hy⟩
     iterate 4 refine Gq ?_
     refine Gc ?_
     refine au rfl (fun h4=> ?_) (fun h4=> ?_)
     ·
      replace h4:=bz h4
      have hz:aV (cv c)=false:=by
       cases hk:aV (cv c)with
       |false=>rfl
       |true=>
        have g:=(dV.1 ((bR.1 hk).2.2.2.2 (bv x) (List.mem_of_getElem? (jn hx)))).2.2.2.2.2 y.xs (List.mem_of_getElem? (k7 hy))
        omega
      refine Gc ?_
      refine Gs ?_
      refine Gc ?_
      refine aq (.inl rfl) (aJ rfl (al rfl)) (fun w1 hw=> ?_)
      exact⟨congrArg (fun b=>Ending.returned (Value.bool b)) (hz.symm),ah.mem hw⟩
     ·
      replace h4:=bz h4
      refine Gc ?_
      iterate 3 refine Gs ?_
      refine Gi ?_
      exact bA (x:=(j)) (j+1) ⟨by first|omega|(simp only[];omega),fun k z hk hz=>if e:k=j then(by subst e;rw[show(bv x).pages=aK x.pages.xs from rfl,k7 hy]at hz;cases hz;omega)else dF k z (by first|omega|(simp only[];omega)) hz⟩ (by first|omega|(simp only[];omega)) (Sub.cons rfl (Sub.cons rfl (Sub.cons rfl (Sub.cons rfl (Sub.nil _))))) (fun w hw=>ah.mem hw)
    ·
     replace h3:=bz h3
     have rF:mE c.pages c.size (bv x)=true:=dV.2 ⟨by simp only[bv,jF];omega,by simp only[bv];omega,by simp only[bv];omega,by simp only[bv];omega,by simp only[bv];omega,fun y hy=>by
      obtain⟨k,hk⟩:=List.getElem?_of_mem hy
      exact dF k y (by have h:=(List.getElem?_eq_some_iff.1 hk).1;simp only[bv,jF]at h;omega) hk⟩
     refine Gc ?_
     iterate 3 refine Gs ?_
     refine Gi ?_
     exact bA (x:=(i)) (i+1) ⟨by first|omega|(simp only[];omega),fun j b hj hb=>if e:j=i then(by subst e;rw[jn hx]at hb;cases hb;exact rF)else aH j b (by first|omega|(simp only[];omega)) hb⟩ (by first|omega|(simp only[];omega)) (Sub.cons rfl (Sub.cons rfl (Sub.nil _))) (fun w hw=>ah.mem hw)
  ·
   replace h1:=bz h1
   obtain rfl:i=c.blocks.xs.length:=by omega
   have hz:aV (cv c)=true:=bR.2 ⟨g0.1,g0.2.1,g0.2.2.1,g0.2.2.2,fun b hb=>by
    obtain⟨j,hj⟩:=List.getElem?_of_mem hb
    exact aH j b (by have:=(List.getElem?_eq_some_iff.1 hj).1;omega) hj⟩
   refine Gc ?_
   refine Gs ?_
   refine Gc ?_
   refine aq (.inl rfl) (aJ rfl (al rfl)) (fun w1 hw=> ?_)
   exact⟨congrArg (fun b=>Ending.returned (Value.bool b)) (hz.symm),ah.mem hw⟩
theorem aae(w:World)(a:Bk)(d:Bk)(ha:Deep.bb (hp w) a)(hd:Deep.bb (hp w) d):Calls Tryz.prog 38 #[.agg (bN a), .agg (bN d)] w fun e w'=>e= .returned (.bool (decide (bv a=bv d)))∧Mem w [] w':=by
 have xJ:cm w a:=⟨ha⟩
 have GZ:cm w d:=⟨hd⟩
 have jc:=ha.1.bd
 have hla:=jF a.pages.xs
 have xd:=jF d.pages.xs
 refine ba (args:=[_,_]) Tryz.func38 rfl Tryz.ntmps38 rfl ?_
 change Cw _ _ _ _ _ [(0, .agg (bN a)),(1, .agg (bN d))] []
 refine Gc ?_
 refine bY rfl fun b2=> ?_
 refine bY rfl fun b3=> ?_
 refine Gs ?_
 refine Gc ?_
 iterate 6 refine Gs ?_
 iterate 5 refine Gg ?_
 iterate 2 refine Gs ?_
 iterate 4 refine Gg ?_
 refine bM rfl rfl rfl (fun hg=>(Ry.yl (Jg (aG hg rfl) (aG hg rfl) Tryz.underlying4))) ?_
 iterate 2 refine Gs ?_
 iterate 7 refine Gg ?_
 refine Gs ?_
 refine Gc ?_
 refine au rfl (fun h0=> ?_) (fun h0=> ?_)
 ·
  replace h0:=bz h0
  have hz:decide (bv a=bv d)=false:=decide_eq_false fun e=>by
   obtain⟨g1,g2,g3,g4⟩:=Gm.1 e
   have g5:=congrArg List.length g4
   simp only[bv,jF]at g1 g2 g3 g5
   rcases h0 with((h|h)|h)|h
   ·
    exact h g1
   ·
    exact h g2
   ·
    rw[g3]at h;simp at h
   ·
    omega
  refine Gc ?_
  refine Gs ?_
  refine Gc ?_
  refine aq (.inl rfl) (aJ rfl (al rfl)) (fun w1 hw=> ?_)
  exact⟨congrArg (fun b=>Ending.returned (Value.bool b)) (hz.symm),ah.mem hw⟩
 ·
  replace h0:=bz h0
  have hc:a.used=d.used∧a.aT=d.aT∧a.bad=d.bad∧a.pages.xs.length=d.pages.xs.length:=⟨h0.1.1.1,h0.1.1.2,by simpa using h0.1.2,by omega⟩
  refine Gc ?_
  refine Gs ?_
  refine Gc ?_
  refine cc (X:=Nat) (fun zz=>[(5, .int .i64 (zz:Nat)),(2, .pointer (some ⟨b2,0,none⟩)),(3, .pointer (some ⟨b3,0,none⟩))]) (fun zz=>[ar b3 (bN d) 48,ar b2 (bN a) 48]) (fun zz=>zz≤a.pages.xs.length∧ ∀j,j<zz→(bv a).pages[j]? =(bv d).pages[j]?) (fun zz=>a.pages.xs.length -zz) 0 ⟨Nat.zero_le _,fun j hj=>by first|omega|(simp only[];omega)⟩ (Sub.cons rfl (Sub.cons rfl (Sub.cons rfl (Sub.nil _)))) (fun w hw=>ah.mem hw) ?_
  rintro i ⟨bj,aH⟩
  refine Gc ?_
  iterate 5 refine Gs ?_
  refine Gc ?_
  refine au rfl (fun h1=> ?_) (fun h1=> ?_)
  ·
   replace h1:=bz h1
   obtain⟨x,hx⟩:=get_some (xs:=a.pages.xs) (i:=i) (by omega)
   obtain⟨y,hy⟩:=get_some (xs:=d.pages.xs) (i:=i) (by omega)
   have Ab:Mb x a.pages:=⟨List.mem_of_getElem? hx⟩
   have xL:Mb y d.pages:=⟨List.mem_of_getElem? hy⟩
   refine Gc ?_
   refine hG (by kernel_rfl) (by kernel_rfl) ?_
   iterate 3 refine Gq ?_
   refine bf (bk rfl rfl i rfl (by omega)) ?_
   refine bf (bP (j:=0) rfl i hx rfl (by decide)) ?_
   have Zi:Mb x _:=⟨List.mem_of_getElem? hx⟩
   refine bf (BD Tryz.underlying38 Tryz.underlying5 Tryz.underlying9 rfl) ?_
   iterate 3 refine Gq ?_
   refine bf (bk rfl rfl i rfl (by omega)) ?_
   refine bf (bP (j:=0) rfl i hy rfl (by decide)) ?_
   have akb:Mb y _:=⟨List.mem_of_getElem? hy⟩
   refine bf (BD Tryz.underlying38 Tryz.underlying5 Tryz.underlying9 rfl) ?_
   refine bf (Rx rfl rfl) ?_
   refine Gc ?_
   refine au rfl (fun h2=> ?_) (fun h2=> ?_)
   ·
    replace h2:=bz h2
    have hz:decide (bv a=bv d)=false:=decide_eq_false fun e=>h2 (by
     have g:=congrArg (fun l:List (List UInt8)=>l[i]?) (Gm.1 e).2.2.2
     simp only[bv,k7 hx,k7 hy]at g
     exact Option.some.inj g)
    refine Gc ?_
    refine Gs ?_
    refine Gc ?_
    refine aq (.inl rfl) (aJ rfl (al rfl)) (fun w1 hw=> ?_)
    exact⟨congrArg (fun b=>Ending.returned (Value.bool b)) (hz.symm),ah.mem hw⟩
   ·
    replace h2:=bz h2
    refine Gc ?_
    iterate 3 refine Gs ?_
    refine Gi ?_
    exact bA (x:=(i)) (i+1) ⟨by first|omega|(simp only[];omega),fun j hj=>if e:j=i then(by subst e;rw[show(bv a).pages=aK a.pages.xs from rfl,show(bv d).pages=aK d.pages.xs from rfl,k7 hx,k7 hy,h2])else aH j (by first|omega|(simp only[];omega))⟩ (by first|omega|(simp only[];omega)) (Sub.cons rfl (Sub.cons rfl (Sub.cons rfl (Sub.nil _)))) (fun w hw=>ah.mem hw)
  ·
   replace h1:=bz h1
   obtain rfl:i=a.pages.xs.length:=by omega
   have hz:decide (bv a=bv d)=true:=decide_eq_true (Gm.2 ⟨hc.1,hc.2.1,hc.2.2.1,CN (by simp only[bv,jF];exact hc.2.2.2) fun j hj=>aH j (by simpa only[bv,jF]using hj)⟩)
   refine Gc ?_
   refine Gs ?_
   refine Gc ?_
   refine aq (.inl rfl) (aJ rfl (al rfl)) (fun w1 hw=> ?_)
   exact⟨congrArg (fun b=>Ending.returned (Value.bool b)) (hz.symm),ah.mem hw⟩
instance akc{w0:World}{L:List ai}{a:Bk}{d:Bk}[ha:aW w0 L a][hd:aW w0 L d]:cI Tryz.prog 38 w0 L [.agg (bN a), .agg (bN d)] (.bool (decide (bv a=bv d))) (True):=⟨fun hp w hw=>aae w a d (ha.h w hw) (hd.h w hw)⟩
theorem N7(d:Nat):pR Tryz.prog (d+1) 4 false [1]:=⟨⟨_,Tryz.underlying4,rfl⟩,by kernel_rfl,fun _=>rfl,UU Tryz.underlying4⟩
theorem aaf:Tryz.prog.stoodInHeld 94=false:=by kernel_rfl
theorem aag(d:Nat):pR Tryz.prog (d+1+1+1+1+1) 94 true ([0]++([1]++([1]++([0]++[])))):=⟨⟨_,Tryz.underlying94,rfl⟩,by kernel_rfl,(fun h=>by cases h),
 GG Tryz.underlying94 aaf ⟨by decide,rfl,_,_,_,rfl,GH _,by decide,rfl,_,_,_,rfl,N7 _,by decide,rfl,_,_,_,rfl,N7 _,by decide,rfl,_,_,_,rfl,MD _,rfl⟩⟩
theorem aah:Tryz.prog.eqGuardType Tryz.prog.depth 94=false:=by kernel_rfl
theorem aai{a b:Ft}:dn a=dn b↔a=b:=by
 constructor
 ·
  intro h
  obtain⟨a1,a2,a3,a4⟩:=a
  obtain⟨b1,b2,b3,b4⟩:=b
  simp only[dn,Array.mk.injEq,List.cons.injEq,Value.int.injEq,Value.bool.injEq,true_and,and_true]at h
  obtain⟨h1,h2,h3,h4⟩:=h
  have rG:a4=b4:=UInt8.toNat_inj.1 (by omega)
  subst h1 h2 h3 rG;rfl
 ·
  rintro rfl;rfl
instance (a b:Ft):uO Tryz.prog 94 (.agg (dn a)) (.agg (dn b)) (decide (a=b)):=
 (aag 9995).eq.val rfl aah rfl rfl (fun i k hk=>by
  have hi:i<4:=(List.getElem?_eq_some_iff.1 hk).1
  match i,hi with
  |0,_=>obtain rfl:0=k:=Option.some.inj hk;exact⟨_,_,rfl,rfl,rfl⟩
  |1,_=>obtain rfl:1=k:=Option.some.inj hk;exact⟨_,_,rfl,rfl,trivial⟩
  |2,_=>obtain rfl:1=k:=Option.some.inj hk;exact⟨_,_,rfl,rfl,trivial⟩
  |3,_=>obtain rfl:0=k:=Option.some.inj hk;exact⟨_,_,rfl,rfl,rfl⟩) (by rw[decide_eq_true_iff];exact aai)
theorem aaj(w:World)(a:Cp)(d:Cp)(ha:Deep.bb (hp w) a)(hd:Deep.bb (hp w) d):Calls Tryz.prog 47 #[.agg (aD a), .agg (aD d)] w fun e w'=>e= .returned (.bool (decide (cv a=cv d)))∧Mem w [] w':=by
 have xJ:cm w a:=⟨ha⟩
 have GZ:cm w d:=⟨hd⟩
 have jc:=ha.1.1.bd
 have hbf:=ha.2.1.bd
 have hla:=fB a.blocks.xs
 have xd:=fB d.blocks.xs
 refine ba (args:=[_,_]) Tryz.func47 rfl Tryz.ntmps47 rfl ?_
 change Cw _ _ _ _ _ [(0, .agg (aD a)),(1, .agg (aD d))] []
 refine Gc ?_
 refine bY rfl fun b2=> ?_
 refine bY rfl fun b3=> ?_
 refine Gs ?_
 refine Gc ?_
 iterate 6 refine Gs ?_
 iterate 5 refine Gg ?_
 iterate 2 refine Gs ?_
 iterate 5 refine Gg ?_
 iterate 2 refine Gs ?_
 iterate 4 refine Gg ?_
 refine bM rfl rfl rfl (fun hg=>(Ry.yl (Jg (aG hg rfl) (aG hg rfl) Tryz.underlying4))) ?_
 iterate 2 refine Gs ?_
 iterate 7 refine Gg ?_
 iterate 2 refine Gs ?_
 iterate 7 refine Gg ?_
 refine Gs ?_
 refine Gc ?_
 refine au rfl (fun h0=> ?_) (fun h0=> ?_)
 ·
  replace h0:=bz h0
  have hz:decide (cv a=cv d)=false:=decide_eq_false fun e=>by
   obtain⟨g1,g2,g3,g4,g5,g6⟩:=CM.1 e
   have g7:=congrArg List.length g5
   have g8:=congrArg List.length g6
   simp only[cv,fB]at g1 g2 g3 g4 g7 g8
   rcases h0 with((((h|h)|h)|h)|h)|h
   ·
    exact h g1
   ·
    exact h g2
   ·
    exact h g3
   ·
    rw[g4]at h;simp at h
   ·
    omega
   ·
    omega
  refine Gc ?_
  refine Gs ?_
  refine Gc ?_
  refine aq (.inl rfl) (aJ rfl (al rfl)) (fun w1 hw=> ?_)
  exact⟨congrArg (fun b=>Ending.returned (Value.bool b)) (hz.symm),ah.mem hw⟩
 ·
  replace h0:=bz h0
  have hc:a.pages=d.pages∧a.size=d.size∧a.ops=d.ops∧a.off=d.off∧a.blocks.xs.length=d.blocks.xs.length∧a.aQ.xs.length=d.aQ.xs.length:=⟨h0.1.1.1.1.1,h0.1.1.1.1.2,h0.1.1.1.2,by simpa using h0.1.1.2,by omega,by omega⟩
  refine Gc ?_
  refine Gs ?_
  refine Gc ?_
  refine cc (X:=Nat) (fun zz=>[(5, .int .i64 (zz:Nat)),(2, .pointer (some ⟨b2,0,none⟩)),(3, .pointer (some ⟨b3,0,none⟩))]) (fun zz=>[ar b3 (aD d) 25,ar b2 (aD a) 25]) (fun zz=>zz≤a.aQ.xs.length∧ ∀j,j<zz→a.aQ.xs[j]? =d.aQ.xs[j]?) (fun zz=>a.aQ.xs.length -zz) 0 ⟨Nat.zero_le _,fun j hj=>by first|omega|(simp only[];omega)⟩ (Sub.cons rfl (Sub.cons rfl (Sub.cons rfl (Sub.nil _)))) (fun w hw=>ah.mem hw) ?_
  rintro i ⟨bj,aH⟩
  refine Gc ?_
  iterate 5 refine Gs ?_
  refine Gc ?_
  refine au rfl (fun h1=> ?_) (fun h1=> ?_)
  ·
   replace h1:=bz h1
   obtain⟨x,hx⟩:=get_some (xs:=a.aQ.xs) (i:=i) (by omega)
   obtain⟨y,hy⟩:=get_some (xs:=d.aQ.xs) (i:=i) (by omega)
   refine Gc ?_
   refine hG (by kernel_rfl) (by kernel_rfl) ?_
   iterate 3 refine Gq ?_
   refine bf (bk rfl rfl i rfl (by omega)) ?_
   refine bf (gR rfl i hx rfl) ?_
   iterate 3 refine Gq ?_
   refine bf (bk rfl rfl i rfl (by omega)) ?_
   refine bf (gR rfl i hy rfl) ?_
   refine bf (Ep rfl rfl) ?_
   refine Gc ?_
   refine au rfl (fun h2=> ?_) (fun h2=> ?_)
   ·
    replace h2:=bz h2
    have hz:decide (cv a=cv d)=false:=decide_eq_false fun e=>h2 (by
     have g:=congrArg (fun l:List Ft=>l[i]?) (CM.1 e).2.2.2.2.2
     simp only[cv,hx,hy]at g
     exact Option.some.inj g)
    refine Gc ?_
    refine Gs ?_
    refine Gc ?_
    refine aq (.inl rfl) (aJ rfl (al rfl)) (fun w1 hw=> ?_)
    exact⟨congrArg (fun b=>Ending.returned (Value.bool b)) (hz.symm),ah.mem hw⟩
   ·
    replace h2:=bz h2
    refine Gc ?_
    iterate 3 refine Gs ?_
    refine Gi ?_
    exact bA (x:=(i)) (i+1) ⟨by first|omega|(simp only[];omega),fun j hj=>if e:j=i then(by subst e;rw[hx,hy,h2])else aH j (by first|omega|(simp only[];omega))⟩ (by first|omega|(simp only[];omega)) (Sub.cons rfl (Sub.cons rfl (Sub.cons rfl (Sub.nil _)))) (fun w hw=>ah.mem hw)
  ·
   replace h1:=bz h1
   obtain rfl:i=a.aQ.xs.length:=by omega
   have hfe:a.aQ.xs=d.aQ.xs:=CN hc.2.2.2.2.2 aH
   refine Gc ?_
   refine Gs ?_
   refine Gc ?_
   refine cc (X:=Nat) (fun zz=>[(6, .int .i64 (zz:Nat)),(2, .pointer (some ⟨b2,0,none⟩)),(3, .pointer (some ⟨b3,0,none⟩))]) (fun zz=>[ar b3 (aD d) 25,ar b2 (aD a) 25]) (fun zz=>zz≤a.blocks.xs.length∧ ∀k,k<zz→(gF a.blocks.xs)[k]? =(gF d.blocks.xs)[k]?) (fun zz=>a.blocks.xs.length -zz) 0 ⟨Nat.zero_le _,fun j hj=>by first|omega|(simp only[];omega)⟩ (Sub.cons rfl (Sub.cons rfl (Sub.cons rfl (Sub.nil _)))) (fun w hw=>ah.mem hw) ?_
   rintro j ⟨iG,dF⟩
   refine Gc ?_
   iterate 5 refine Gs ?_
   refine Gc ?_
   refine au rfl (fun h3=> ?_) (fun h3=> ?_)
   ·
    replace h3:=bz h3
    obtain⟨x,hx⟩:=get_some (xs:=a.blocks.xs) (i:=j) (by omega)
    obtain⟨y,hy⟩:=get_some (xs:=d.blocks.xs) (i:=j) (by omega)
    have Ab:Mb x a.blocks:=⟨List.mem_of_getElem? hx⟩
    have xL:Mb y d.blocks:=⟨List.mem_of_getElem? hy⟩
    refine Gc ?_
    refine hG (by kernel_rfl) (by kernel_rfl) ?_
    iterate 3 refine Gq ?_
    refine bf (bk rfl rfl j rfl (by omega)) ?_
    refine bf (gR rfl j hx rfl) ?_
    have akd:Mb x a.blocks:=⟨List.mem_of_getElem? hx⟩
    iterate 3 refine Gq ?_
    refine bf (bk rfl rfl j rfl (by omega)) ?_
    refine bf (gR rfl j hy rfl) ?_
    have ake:Mb y d.blocks:=⟨List.mem_of_getElem? hy⟩
    refine tp (cE rfl trivial) ?_
    refine Gq ?_
    refine Gc ?_
    refine au rfl (fun h4=> ?_) (fun h4=> ?_)
    ·
     replace h4:=bz h4
     have hz:decide (cv a=cv d)=false:=decide_eq_false fun e=>absurd (show bv x=bv y by
      have g:=congrArg (fun l:List BV=>l[j]?) (CM.1 e).2.2.2.2.1
      simp only[cv,jn hx,jn hy]at g
      exact Option.some.inj g) h4
     refine Gc ?_
     refine Gs ?_
     refine Gc ?_
     refine aq (.inl rfl) (aJ rfl (al rfl)) (fun w1 hw=> ?_)
     exact⟨congrArg (fun b=>Ending.returned (Value.bool b)) (hz.symm),ah.mem hw⟩
    ·
     replace h4:=bz h4
     refine Gc ?_
     iterate 3 refine Gs ?_
     refine Gi ?_
     exact bA (x:=(j)) (j+1) ⟨by first|omega|(simp only[];omega),fun k hk=>if e:k=j then(by subst e;rw[jn hx,jn hy,h4])else dF k (by first|omega|(simp only[];omega))⟩ (by first|omega|(simp only[];omega)) (Sub.cons rfl (Sub.cons rfl (Sub.cons rfl (Sub.nil _)))) (fun w hw=>ah.mem hw)
   ·
    replace h3:=bz h3
    obtain rfl:j=a.blocks.xs.length:=by omega
    have hz:decide (cv a=cv d)=true:=decide_eq_true (CM.2 ⟨hc.1,hc.2.1,hc.2.2.1,hc.2.2.2.1,CN (by simp only[cv,fB];exact hc.2.2.2.2.1) fun k hk=>dF k (by simpa only[cv,fB]using hk),hfe⟩)
    refine Gc ?_
    refine Gs ?_
    refine Gc ?_
    refine aq (.inl rfl) (aJ rfl (al rfl)) (fun w1 hw=> ?_)
    exact⟨congrArg (fun b=>Ending.returned (Value.bool b)) (hz.symm),ah.mem hw⟩
instance akf{w0:World}{L:List ai}{a:Cp}{d:Cp}[ha:aW w0 L a][hd:aW w0 L d]:cI Tryz.prog 47 w0 L [.agg (aD a), .agg (aD d)] (.bool (decide (cv a=cv d))) (True):=⟨fun hp w hw=>aaj w a d (ha.h w hw) (hd.h w hw)⟩
open Go.aA Go.Kb
open Go.RowKit
open Go.aA Go.Kb
open Go.RowKit
theorem aak(w:World)(a:bO)(d:bO)(ha:Deep.bb (hp w) a)(hd:Deep.bb (hp w) d):Calls Tryz.prog 14 #[.agg (bI a), .agg (bI d)] w fun e w'=>e= .returned (.bool (decide (vv a=vv d)))∧Mem w [] w':=by
 have xJ:cm w a:=⟨ha⟩
 have GZ:cm w d:=⟨hd⟩
 refine ba (args:=[_,_]) Tryz.func14 rfl Tryz.ntmps14 rfl ?_
 change Cw _ _ _ _ _ [(0, .agg (bI a)),(1, .agg (bI d))] []
 refine Gc ?_
 refine bY rfl fun b2=> ?_
 refine bY rfl fun b3=> ?_
 refine Gs ?_
 refine Gc ?_
 refine Gs ?_
 refine ag (gD rfl) ?_
 refine Gs ?_
 refine ag (gD rfl) ?_
 iterate 2 refine Gs ?_
 iterate 4 refine Gg ?_
 refine g9 rfl rfl rfl (fun hg=>cE (dy (aG hg rfl) (dy (aG hg rfl) gB)) trivial) ?_
 iterate 2 refine Gs ?_
 iterate 5 refine Gg ?_
 iterate 2 refine Gs ?_
 iterate 5 refine Gg ?_
 iterate 2 refine Gs ?_
 refine Gc ?_
 refine aq (.inl rfl) (aJ rfl (al rfl)) (fun w1 hw=> ?_)
 exact⟨congrArg (fun b=>Ending.returned (Value.bool b)) ((by
  rw[show decide (((a.gen.toNat:Nat):Int)=((d.gen.toNat:Nat):Int))=decide (a.gen.toNat=d.gen.toNat)from decide_eq_decide.2 (by omega),Bool.eq_iff_iff]
  simp only[Bool.and_eq_true,decide_eq_true_eq]
  rw[Uv,and_assoc,and_assoc];rfl)),ah.mem hw⟩
instance akg{w0:World}{L:List ai}{a:bO}{d:bO}[ha:aW w0 L a][hd:aW w0 L d]:cI Tryz.prog 14 w0 L [.agg (bI a), .agg (bI d)] (.bool (decide (vv a=vv d))) (True):=⟨fun hp w hw=>aak w a d (ha.h w hw) (hd.h w hw)⟩
open Go.aA Go.Kb
open Go.RowKit
theorem aal(n s:Int)(b:Sv)(xs:List Bk)(w:World):(Instr.build 25 #[(0, .int .i64 n),(1, .int .i64 s),(2,b.val)]).run Tryz.prog w= .ok (.agg (aD ⟨n,s,⟨b,xs⟩,0,false,⟨Sv.none,[]⟩⟩)) w:=by
 unfold aD
 obtain⟨e,b,o,l,c,p⟩:=b
 cases e<;>kernel_rfl
theorem aam(w:World)(b:Int)(n:Int)(s:Int):Calls Tryz.prog 31 #[.int .i64 b, .int .i64 n, .int .i64 s] w fun e w'=> ∃zz:Cp,e= .returned (.tuple #[.agg (aD zz), .int .i64 ((n7 b n s).2)])∧(cv zz=(n7 b n s).1)∧Mem w [fz zz] w':=by
 refine ba (args:=[_,_,_]) Tryz.func31 rfl Tryz.ntmps31 rfl ?_
 change Cw _ _ _ _ _ [(0, .int .i64 b),(1, .int .i64 n),(2, .int .i64 s)] []
 refine Gc ?_
 refine bH fun b6=> ?_
 refine Gs ?_
 refine Gc ?_
 iterate 5 refine Gs ?_
 refine Gc ?_
 refine au rfl (fun h0=> ?_) (fun h0=> ?_)
 ·
  replace h0:=bz h0
  have hN:n7 b n s=(⟨0,0,[],0,false,[]⟩,1):=by rw[n7,if_neg (by rw[h0];simp)]
  refine Gc ?_
  refine ag (cS (v:= .agg (aD gn)) rfl (fun w=>by kernel_rfl)) ?_
  iterate 2 refine Gs ?_
  refine Gc ?_
  refine aq (.inl rfl) (bq rfl (cf rfl) (al rfl)) (fun w1 hw=> ?_)
  exact⟨gn,by rw[hN],by rw[hN];rfl,KT (d:=gn) rfl (show Mem w [own bN 4 Sv.none [],ai.all []] _ from ah.mem (Mem.vo (Mem.dZ bN 4 (ah.mem hw:Mem w [] _))))⟩
 ·
  replace h0:=bz h0
  have ia:=jW.1 h0
  have hN:n7 b n s=(⟨n,s,List.replicate b.toNat (⟨List.replicate n.toNat (gu s),0,0,false⟩:BV),0,false,[]⟩,0):=by rw[n7,if_pos h0]
  refine Gc ?_
  iterate 3 refine Gs ?_
  refine tA (enc:=bN) (n:=b.toNat) (cap:=b.toNat) oM rfl rfl rfl (by omega) (by omega) (by omega) (by omega) (by omega) fun ib=> ?_
  refine ag (cS (v:= .agg (aD (⟨n,s,⟨⟨false,ib,0,b.toNat,b.toNat,none⟩,[]⟩,0,false,⟨Sv.none,[]⟩⟩:Cp))) rfl (aal n s ⟨false,ib,0,b.toNat,b.toNat,none⟩ [])) ?_
  refine bH fun b8=> ?_
  refine Gs ?_
  refine Gc ?_
  iterate 2 refine Gs ?_
  refine Gc ?_
  refine cc (X:=Nat×List Bk) (fun zz=>[(23, .int .i64 (zz.1:Nat)),(8, .pointer (some ⟨b8,0,none⟩)),(1, .int .i64 n),(2, .int .i64 s),(6, .pointer (some ⟨b6,0,none⟩)),(22, .int .i64 b)]) (fun zz=>[own bN 4 ⟨false,ib,0,b.toNat,b.toNat,none⟩ zz.2,ai.all ((zz.2.take zz.1).map fun b:Bk=>fz b.pages),ar b8 (aD (⟨n,s,⟨⟨false,ib,0,b.toNat,b.toNat,none⟩,[]⟩,0,false,⟨Sv.none,[]⟩⟩:Cp)) 25,ar b6 (aD gn) 25]) (fun zz=>zz.1≤b.toNat∧zz.2.length=b.toNat∧(zz.2.take zz.1).map bv=List.replicate zz.1 (⟨List.replicate n.toNat (gu s),0,0,false⟩:BV)∧ ∀j,zz.1≤j→j<b.toNat→zz.2[j]? =Option.some oM) (fun zz=>b.toNat -zz.1) (0,List.replicate b.toNat oM) ⟨Nat.zero_le _,by simp,by simp,fun j _ hj=>by simp[hj]⟩ (Sub.cons rfl (Sub.cons rfl (Sub.cons rfl (Sub.cons rfl (Sub.cons rfl (Sub.cons rfl (Sub.nil _))))))) (fun w hw=>by
   simp only[List.take_zero,List.map_nil];exact ah.mem (Mem.vo hw)) ?_
  rintro⟨i,zs⟩ ⟨bj,aH,bG,di⟩
  dsimp only
  simp only at bj aH bG di
  refine Gc ?_
  refine Gs ?_
  refine Gc ?_
  refine au rfl (fun h1=> ?_) (fun h1=> ?_)
  ·
   replace h1:=bz h1
   obtain⟨z,hz⟩:=get_some (xs:=zs) (i:=i) (by omega)
   obtain rfl:z=oM:=Option.some.inj (hz.symm.trans (di i (Nat.le_refl _) (by omega)))
   have aan:=Cq (b:=ib) (n:=b.toNat) (by omega)
   refine Gc ?_
   iterate 2 refine Gs ?_
   refine Gc ?_
   refine jE [4,7] [[],[],[],[],[],[4],[4],[4]] [0,1,2,3,4,5,6,7] [ar b8 (aD (⟨n,s,⟨⟨false,ib,0,b.toNat,b.toNat,none⟩,[]⟩,0,false,⟨Sv.none,[]⟩⟩:Cp)) 25] (fun _ hw=>ah.mem hw) (by kernel_rfl) (by kernel_rfl) ?_
   refine an rfl (aI (o':=2) rfl rfl) ?_
   refine an rfl (bJ rfl) ?_
   refine an rfl (aE rfl) ?_
   refine an rfl (aE rfl) ?_
   refine dN rfl (Kg (enc:=ca (τ:=UInt8)) (n:=n.toNat) (cap:=n.toNat) (⟨Sv.none,[]⟩:Sl UInt8) rfl rfl rfl (by omega) (by omega) (by omega) (by omega) (by omega) fun fP=>⟨fun _ hw=>ah.mem hw,?_⟩)
   obtain⟨e31,akh⟩:=get_some (xs:=zs) (i:=i) (by omega)
   refine an rfl (lS (s:=⟨false,ib,0,b.toNat,b.toNat,none⟩) (i:=i) rfl rfl rfl aan (by simp only;omega)) ?_
   refine an rfl (aI rfl rfl) ?_
   refine dN rfl (vl (s:=⟨false,ib,0,b.toNat,b.toNat,none⟩) (n:=1) (k:=i) (j:=0) (a:=oM) (a':=⟨⟨⟨false,fP,0,n.toNat,n.toNat,none⟩,[]⟩,0,0,false⟩) (xs:=zs) (enc:=bN) (c:=4) (v:=(⟨false,fP,0,n.toNat,n.toNat,none⟩:Sv).val) (by kernel_rfl) rfl rfl rfl hz (by rw[Sv.jm];simp[Sv.one]) (by rw[Sv.jm];rfl) (by decide) (by rw[Sv.jm];rfl) ⟨fun _ hw=>ah.mem hw,?_⟩)
   iterate 3 refine Gi ?_
   have N8:(zs.set i ⟨⟨⟨false,fP,0,n.toNat,n.toNat,none⟩,[]⟩,0,0,false⟩)[i]? =Option.some (⟨⟨⟨false,fP,0,n.toNat,n.toNat,none⟩,[]⟩,0,0,false⟩:Bk):=List.getElem?_set_self (by omega)
   have oV:(zs.set i ⟨⟨⟨false,fP,0,n.toNat,n.toNat,none⟩,[]⟩,0,0,false⟩).length=b.toNat:=by rw[List.length_set];exact aH
   refine Gi ?_
   iterate 2 refine Gs ?_
   refine Gc ?_
   refine cc (X:=Nat×List (Sl UInt8)) (fun zz=>[(34, .int .i64 (zz.1:Nat)),(8, .pointer (some ⟨b8,0,none⟩)),(1, .int .i64 n),(2, .int .i64 s),(6, .pointer (some ⟨b6,0,none⟩)),(9, .int .i64 (i:Nat)),(22, .int .i64 b),(23, .int .i64 (i:Nat)),(33, .int .i64 n)]) (fun zz=>[own (ca (τ:=UInt8)) 1 ⟨false,fP,0,n.toNat,n.toNat,none⟩ zz.2,ai.all ((zz.2.take zz.1).map fun b:Sl UInt8=>fz b),own bN 4 ⟨false,ib,0,b.toNat,b.toNat,none⟩ (zs.set i ⟨⟨⟨false,fP,0,n.toNat,n.toNat,none⟩,[]⟩,0,0,false⟩),ai.all ((zs.take i).map fun b:Bk=>fz b.pages),ar b8 (aD (⟨n,s,⟨⟨false,ib,0,b.toNat,b.toNat,none⟩,[]⟩,0,false,⟨Sv.none,[]⟩⟩:Cp)) 25,ar b6 (aD gn) 25]) (fun zz=>zz.1≤n.toNat∧zz.2.length=n.toNat∧aK (zz.2.take zz.1)=List.replicate zz.1 (gu s)) (fun zz=>n.toNat -zz.1) (0,List.replicate n.toNat ⟨Sv.none,[]⟩) ⟨Nat.zero_le _,by simp,by simp[aK]⟩ (Sub.cons rfl (Sub.cons rfl (Sub.cons rfl (Sub.cons rfl (Sub.cons rfl (Sub.cons rfl (Sub.cons rfl (Sub.cons rfl (Sub.cons rfl (Sub.nil _)))))))))) (fun w hw=>by
    simp only[List.take_zero,List.map_nil]
    exact ah.mem (Mem.vo hw)) ?_
   rintro⟨j,qs⟩ ⟨iG,dF,jk⟩
   dsimp only
   simp only at iG dF jk
   refine Gc ?_
   refine Gs ?_
   refine Gc ?_
   refine au rfl (fun h2=> ?_) (fun h2=> ?_)
   ·
    replace h2:=bz h2
    obtain⟨y,hy⟩:=get_some (xs:=qs) (i:=j) (by omega)
    have aao:=Cq (b:=fP) (n:=n.toNat) (by omega)
    refine Gc ?_
    iterate 2 refine Gs ?_
    refine Gc ?_
    refine jE [8,10] [[],[],[],[],[],[],[],[],[],[8],[8]] [0,1,2,3,4,5,6,7,8,9,10] [ar b8 (aD (⟨n,s,⟨⟨false,ib,0,b.toNat,b.toNat,none⟩,[]⟩,0,false,⟨Sv.none,[]⟩⟩:Cp)) 25,own bN 4 ⟨false,ib,0,b.toNat,b.toNat,none⟩ (zs.set i ⟨⟨⟨false,fP,0,n.toNat,n.toNat,none⟩,[]⟩,0,0,false⟩)] (fun _ hw=>ah.mem hw) (by kernel_rfl) (by kernel_rfl) ?_
    refine an rfl (aI (o':=2) rfl rfl) ?_
    refine an rfl (bJ rfl) ?_
    refine an rfl (aE rfl) ?_
    obtain⟨Zx,Zy⟩:=get_some (xs:=(zs.set i ⟨⟨⟨false,fP,0,n.toNat,n.toNat,none⟩,[]⟩,0,0,false⟩)) (i:=i) (by omega)
    refine an rfl (bk (s:=⟨false,ib,0,b.toNat,b.toNat,none⟩) (xs:=(zs.set i ⟨⟨⟨false,fP,0,n.toNat,n.toNat,none⟩,[]⟩,0,0,false⟩)) rfl rfl i rfl (by omega)) ?_
    refine an rfl (aI rfl rfl) ?_
    refine an rfl (Ry.to (v':=(⟨false,fP,0,n.toNat,n.toNat,none⟩:Sv).val) (bP (s:=⟨false,ib,0,b.toNat,b.toNat,none⟩) (j:=0) rfl i N8 rfl (by decide)) rfl) ?_
    refine an rfl (aE rfl) ?_
    refine an rfl (aE rfl) ?_
    refine dN rfl (Kg (enc:=aN) (n:=s.toNat) (cap:=s.toNat) 0 rfl rfl rfl (by omega) (by omega) (by omega) (by omega) (by omega) fun p8=>⟨fun _ hw=>ah.mem hw,?_⟩)
    obtain⟨e46,aki⟩:=get_some (xs:=qs) (i:=j) (by omega)
    refine an rfl (lS (s:=⟨false,fP,0,n.toNat,n.toNat,none⟩) (i:=j) rfl rfl rfl aao (by simp only;omega)) ?_
    refine dN rfl (Sx (s:=⟨false,fP,0,n.toNat,n.toNat,none⟩) (xs:=qs) (k:=j) (a:=y) (⟨⟨false,p8,0,s.toNat,s.toNat,none⟩,gu s⟩:Sl UInt8) (by kernel_rfl) rfl rfl (by omega) hy ⟨fun _ hw=>ah.mem hw,?_⟩)
    refine Gc ?_
    iterate 3 refine Gs ?_
    obtain⟨e50,akj⟩:=get_some (xs:=(zs.set i ⟨⟨⟨false,fP,0,n.toNat,n.toNat,none⟩,[]⟩,0,0,false⟩)) (i:=i) (by omega)
    refine ag (bk (s:=⟨false,ib,0,b.toNat,b.toNat,none⟩) (xs:=(zs.set i ⟨⟨⟨false,fP,0,n.toNat,n.toNat,none⟩,[]⟩,0,0,false⟩)) rfl rfl i rfl (by omega)) ?_
    refine ag (aI rfl rfl) ?_
    refine ag (Ry.to (v':=(⟨false,fP,0,n.toNat,n.toNat,none⟩:Sv).val) (bP (s:=⟨false,ib,0,b.toNat,b.toNat,none⟩) (j:=0) rfl i N8 rfl (by decide)) rfl) ?_
    refine Gs ?_
    refine ag (bk rfl rfl j rfl (by rw[List.length_set];omega)) ?_
    refine ag (Ry.to (v':= .slice (some ⟨(⟨false,p8,0,s.toNat,s.toNat,none⟩:Sv).b,(⟨false,p8,0,s.toNat,s.toNat,none⟩:Sv).o+0,none⟩) s.toNat s.toNat) (bP (s:=⟨false,fP,0,n.toNat,n.toNat,none⟩) (xs:=qs.set j (⟨⟨false,p8,0,s.toNat,s.toNat,none⟩,gu s⟩:Sl UInt8)) (j:=0) rfl j (List.getElem?_set_self (by omega)) rfl (by decide)) rfl) ?_
    refine bo (hc:=VC (rm:=⟨false,p8,0,s.toNat,s.toNat,none⟩) (k:=0) (n:=s.toNat) (cap:=s.toNat) (xs:=List.replicate s.toNat 0)) rfl ⟨by simp,by omega⟩ fun Dm Hv=> ?_
    refine Gc ?_
    iterate 2 refine Gs ?_
    refine Gi ?_
    exact bA (x:=(j,qs)) (j+1,qs.set j (⟨⟨false,p8,0,s.toNat,s.toNat,none⟩,gu s⟩:Sl UInt8)) ⟨by first|omega|(simp only[];omega),by rw[List.length_set];exact dF,by rw[aK,Co hy,←aK,jk,List.replicate_succ']⟩ (by simp only;omega) (Sub.cons rfl (Sub.cons rfl (Sub.cons rfl (Sub.cons rfl (Sub.cons rfl (Sub.cons rfl (Sub.cons rfl (Sub.cons rfl (Sub.cons rfl (Sub.nil _)))))))))) (fun w hw=>by
     have h1:=Fv (a:=(⟨⟨false,p8,0,s.toNat,s.toNat,none⟩,gu s⟩:Sl UInt8)) (by
      simp only[List.take_zero,List.nil_append,Nat.zero_add,List.drop_replicate,Nat.sub_self,List.replicate_zero,List.append_nil]at hw
      exact(ah.mem hw:Mem _ (own aN 1 ⟨false,p8,0,s.toNat,s.toNat,none⟩ (List.replicate s.toNat 255)::[own (ca (τ:=UInt8)) 1 ⟨false,fP,0,n.toNat,n.toNat,none⟩ (qs.set j (⟨⟨false,p8,0,s.toNat,s.toNat,none⟩,gu s⟩:Sl UInt8)),ai.all ((qs.take j).map fun b:Sl UInt8=>fz b),own bN 4 ⟨false,ib,0,b.toNat,b.toNat,none⟩ (zs.set i ⟨⟨⟨false,fP,0,n.toNat,n.toNat,none⟩,[]⟩,0,0,false⟩),ai.all ((zs.take i).map fun b:Bk=>fz b.pages),ar b8 (aD (⟨n,s,⟨⟨false,ib,0,b.toNat,b.toNat,none⟩,[]⟩,0,false,⟨Sv.none,[]⟩⟩:Cp)) 25,ar b6 (aD gn) 25]) _))
     have h3:=Mem.xe (ah.mem h1:Mem _ (fz (⟨⟨false,p8,0,s.toNat,s.toNat,none⟩,gu s⟩:Sl UInt8)::ai.all ((qs.take j).map fun b:Sl UInt8=>fz b)::[own (ca (τ:=UInt8)) 1 ⟨false,fP,0,n.toNat,n.toNat,none⟩ (qs.set j (⟨⟨false,p8,0,s.toNat,s.toNat,none⟩,gu s⟩:Sl UInt8)),own bN 4 ⟨false,ib,0,b.toNat,b.toNat,none⟩ (zs.set i ⟨⟨⟨false,fP,0,n.toNat,n.toNat,none⟩,[]⟩,0,0,false⟩),ai.all ((zs.take i).map fun b:Bk=>fz b.pages),ar b8 (aD (⟨n,s,⟨⟨false,ib,0,b.toNat,b.toNat,none⟩,[]⟩,0,false,⟨Sv.none,[]⟩⟩:Cp)) 25,ar b6 (aD gn) 25]) _)
     rw[FE (z':=(⟨⟨false,p8,0,s.toNat,s.toNat,none⟩,gu s⟩:Sl UInt8)) hy]at h3
     exact ah.mem h3)
   ·
    replace h2:=bz h2
    have tj:j=n.toNat:=by omega
    have jA:j=qs.length:=by omega
    rw[List.take_of_length_le (by omega)]at jk
    refine Gc ?_
    iterate 2 refine Gs ?_
    refine Gi ?_
    exact bA (x:=(i,zs)) (i+1,zs.set i (⟨⟨⟨false,fP,0,n.toNat,n.toNat,none⟩,qs⟩,0,0,false⟩:Bk)) ⟨by first|omega|(simp only[];omega),by rw[List.length_set];exact aH,by rw[Co hz,bG,List.replicate_succ',show bv (⟨⟨⟨false,fP,0,n.toNat,n.toNat,none⟩,qs⟩,0,0,false⟩:Bk)=(⟨List.replicate n.toNat (gu s),0,0,false⟩:BV) by rw[bv,jk,tj]],fun k hk oC=>by rw[List.getElem?_set_ne (by first|omega|(simp only[];omega))];exact di k (by first|omega|(simp only[];omega)) oC⟩ (by simp only;omega) (Sub.cons rfl (Sub.cons rfl (Sub.cons rfl (Sub.cons rfl (Sub.cons rfl (Sub.cons rfl (Sub.nil _))))))) (fun w hw=>by
     rw[List.take_of_length_le (by omega)]at hw
     have h1:=FD (ah.mem hw:Mem _ (own (ca (τ:=UInt8)) 1 ⟨false,fP,0,n.toNat,n.toNat,none⟩ qs::ai.all (qs.map fun b:Sl UInt8=>fz b)::[own bN 4 ⟨false,ib,0,b.toNat,b.toNat,none⟩ (zs.set i ⟨⟨⟨false,fP,0,n.toNat,n.toNat,none⟩,[]⟩,0,0,false⟩),ai.all ((zs.take i).map fun b:Bk=>fz b.pages),ar b8 (aD (⟨n,s,⟨⟨false,ib,0,b.toNat,b.toNat,none⟩,[]⟩,0,false,⟨Sv.none,[]⟩⟩:Cp)) 25,ar b6 (aD gn) 25]) _)
     have h2:=Fx (ys:=zs.set i (⟨⟨⟨false,fP,0,n.toNat,n.toNat,none⟩,qs⟩,0,0,false⟩:Bk)) (by rw[List.map_set,List.map_set];rfl) (ah.mem h1:Mem _ (own bN 4 ⟨false,ib,0,b.toNat,b.toNat,none⟩ (zs.set i ⟨⟨⟨false,fP,0,n.toNat,n.toNat,none⟩,[]⟩,0,0,false⟩)::[fz (⟨⟨false,fP,0,n.toNat,n.toNat,none⟩,qs⟩:Sl (Sl UInt8)),ai.all ((zs.take i).map fun b:Bk=>fz b.pages),ar b8 (aD (⟨n,s,⟨⟨false,ib,0,b.toNat,b.toNat,none⟩,[]⟩,0,false,⟨Sv.none,[]⟩⟩:Cp)) 25,ar b6 (aD gn) 25]) _)
     have h3:=Mem.xe (ah.mem h2:Mem _ (fz (⟨⟨false,fP,0,n.toNat,n.toNat,none⟩,qs⟩:Sl (Sl UInt8))::ai.all ((zs.take i).map fun b:Bk=>fz b.pages)::[own bN 4 ⟨false,ib,0,b.toNat,b.toNat,none⟩ (zs.set i (⟨⟨⟨false,fP,0,n.toNat,n.toNat,none⟩,qs⟩,0,0,false⟩:Bk)),ar b8 (aD (⟨n,s,⟨⟨false,ib,0,b.toNat,b.toNat,none⟩,[]⟩,0,false,⟨Sv.none,[]⟩⟩:Cp)) 25,ar b6 (aD gn) 25]) _)
     rw[KU (z':=(⟨⟨⟨false,fP,0,n.toNat,n.toNat,none⟩,qs⟩,0,0,false⟩:Bk)) hz]at h3
     exact ah.mem h3)
  ·
   replace h1:=bz h1
   obtain rfl:i=zs.length:=by omega
   rw[List.take_length]at bG
   refine Gc ?_
   iterate 3 refine Gs ?_
   refine Gc ?_
   refine aq (.inl rfl) (bq rfl (cf rfl) (al rfl)) (fun w1 hw=> ?_)
   exact⟨⟨n,s,⟨⟨false,ib,0,b.toNat,b.toNat,none⟩,zs⟩,0,false,⟨Sv.none,[]⟩⟩,by rw[hN];rfl,by rw[hN];simp only[cv,gF];rw[bG,aH],KT rfl (by rw[List.take_length]at hw;exact ah.mem hw)⟩
instance akk{w0:World}{L:List ai}{b:Int}{n:Int}{s:Int}:cn Tryz.prog 31 w0 L [.int .i64 b, .int .i64 n, .int .i64 s] (Cp) (fun zz=> .tuple #[.agg (aD zz), .int .i64 ((n7 b n s).2)]) (fun zz=>fz zz::L) (fun zz=>cv zz=(n7 b n s).1) (True):=⟨fun hp w hw=>(aam w b n s).mono fun e w' ⟨x,h1,h2,h3⟩=>⟨x,h1,h2,hw.call h3⟩⟩
end Go.Proofs.YtaipiecplldinaaGreat
namespace Go.aA
open Go.RowKit
section
variable {P:Program} {N:cG} {w0:World} {env:Env} {L:List ai} {l:List Oper} {Q:Exit→Act→World→Prop} {rest:List Oper} {d:Option Tmp} {ty:TypeId} {ps:String} {af:Array Edge}
end
end Go.aA
namespace Go.Proofs.YtaipiecplldinaaGreat
open Go.aA Go.Kb
open Go.RowKit
open Go.aA Go.Kb
open Go.RowKit
end Go.Proofs.YtaipiecplldinaaGreat
namespace Go.Kb
section
variable {α:Type} (f:α→Nat)
def Srt(l:List α):Prop:=l.Pairwise fun a b=>f a≤f b
structure Stb(l l':List α):Prop where
 srt:Srt f l'
 same: ∀k,l'.filter (fun x=>decide (f x=k))=l.filter (fun x=>decide (f x=k))
variable {f}
def ins(f:α→Nat)(x:α):List α→List α
 |[]=>[x]
 |y::r=>if f y<f x then y::ins f x r else x::y::r
def srt(f:α→Nat)(l:List α):List α:=l.foldr (ins f) []
end
section
variable {α:Type} {f:α→Nat} {xs ys zs:List α} {a b m i j k s e:Nat}
def DA(xs:List α)(i j:Nat):List α:=(xs.drop i).take (j -i)
theorem parts(h1:a≤b)(h2:b≤xs.length):xs=xs.take a++DA xs a b++xs.drop b:=by
 rw[DA,List.append_assoc]
 conv=>lhs;rw[←List.take_append_drop a xs,←List.take_append_drop (b -a) (xs.drop a),List.drop_drop,show a+(b -a)=b by omega]
end
end Go.Kb
namespace Go.aA
open Go.RowKit Go.Kb
section
variable {P:Program} {w0 w:World} {L:List ai} {α:Type} {enc:α→Array Value} {c:Nat} {s:Sv} {xs:List α}
end
section
variable {P:Program} {N:cG} {w0:World} {env:Env} {L:List ai} {l:List Oper} {Q:Exit→Act→World→Prop} {rest:List Oper} {d:Option Tmp} {ty:TypeId} {ps:String} {af:Array Edge} {gd:Option (Nat×Bool)}
end
open Go.Kb
section
variable {α:Type} {f:α→Nat} {xs ys zs ts:List α} {a b m i j k n:Nat}
theorem four{P U W V S:List α}(t:Nat):(P++(U++(W++(V++S))))[t]? =if t<P.length then P[t]?else if t<P.length+U.length then U[t -P.length]?else if t<P.length+U.length+W.length then W[t -P.length -U.length]?else if t<P.length+U.length+W.length+V.length then V[t -P.length -U.length -W.length]?else S[t -P.length -U.length -W.length -V.length]? :=by
 simp only[List.getElem?_append]
 by_cases c1:t<P.length
 ·
  rw[if_pos c1,if_pos c1]
 ·
  rw[if_neg c1,if_neg c1]
  by_cases c2:t<P.length+U.length
  ·
   rw[if_pos c2,if_pos (show t -P.length<U.length by omega)]
  ·
   rw[if_neg c2,if_neg (show ¬t -P.length<U.length by omega)]
   by_cases c3:t<P.length+U.length+W.length
   ·
    rw[if_pos c3,if_pos (show t -P.length -U.length<W.length by omega)]
   ·
    rw[if_neg c3,if_neg (show ¬t -P.length -U.length<W.length by omega)]
    by_cases c4:t<P.length+U.length+W.length+V.length
    ·
     rw[if_pos c4,if_pos (show t -P.length -U.length -W.length<V.length by omega)]
    ·
     rw[if_neg c4,if_neg (show ¬t -P.length -U.length -W.length<V.length by omega)]
end
end Go.aA
namespace Go.Kb
variable {t:List Rt} {k:Key} {bits:Int}
theorem Ord.at{t:List Rt}(h:Ord t){i j:Nat}{a b:Rt}(ha:t[i]? =some a)(hb:t[j]? =some b)(mX:i<j):dL a.p b.p=true:=by
 obtain⟨hi,rfl⟩:=List.getElem?_eq_some_iff.1 ha
 obtain⟨hj,rfl⟩:=List.getElem?_eq_some_iff.1 hb
 exact(List.pairwise_iff_getElem.1 h.less) i j hi hj mX
theorem aap{r:Rt}(h:nB k bits r=true):(bits=32∨bits=128)∧eu k bits=k∧cq ⟨bits,bits,k⟩=true:=by
 simp only[nB,Bool.and_eq_true,decide_eq_true_eq]at h
 obtain⟨h1,h2⟩:=h
 obtain⟨h3,h4,_⟩:=(EO _ _).1 h2
 obtain⟨h5,_⟩:=(pw _).1 h3
 rw[h1]at h4 h5
 exact⟨h5,h4,(pw _).2 ⟨h5,by simp only;omega,Int.le_refl _,h4⟩⟩
theorem N9(h:cr t=true):(mO t k bits=0∧lh t k bits∈t∧nB k bits (lh t k bits)=true∧ ∀q∈t,nB k bits q=true→q.p.len≤(lh t k bits).p.len)∨
  (mO t k bits=(if cq ⟨bits,bits,k⟩=true then 6 else 1)∧lh t k bits=fQ∧ ∀q∈t,nB k bits q=false):=by
 by_cases hk:cq ⟨bits,bits,k⟩=true
 ·
  have ho:rL t k bits=true:=by rw[rL,h,hk];rfl
  obtain⟨hb,_,_,hc⟩:=(pw _).1 hk
  have hb:bits=32∨bits=128:=hb
  have hc:eu k bits=k:=hc
  have vJ:((bits.toNat:Nat):Int)≤bits:=by omega
  cases hf:mN t k bits bits.toNat with
  |none=>
   refine .inr ⟨by rw[mO,if_pos ho,hf,if_pos hk];rfl,by rw[lh,if_pos ho,hf];rfl,fun q hq=> ?_⟩
   rw[←Bool.not_eq_true]
   intro hw
   simp only[nB,Bool.and_eq_true,decide_eq_true_eq]at hw
   obtain⟨m,hm,e⟩:=Ms hw.1 hw.2
   exact Mr h hb vJ hf q hq m (by omega) e
  |some r=>
   obtain⟨h1,⟨m,hm,h2⟩,h3⟩:=Mp h hb vJ hf
   have e:lh t k bits=r:=by rw[lh,if_pos ho,hf];rfl
   refine .inl ⟨by rw[mO,if_pos ho,hf];rfl,by rw[e];exact h1,?_,fun q hq hw=> ?_⟩
   ·
    rw[e]
    have:=UP hb hc (r:=r) (m:=m) (by omega) h2
    rw[nB,this.1,this.2];simp
   ·
    rw[e]
    simp only[nB,Bool.and_eq_true,decide_eq_true_eq]at hw
    obtain⟨m,hm,e⟩:=Ms hw.1 hw.2
    exact h3 q hq m (by omega) e
 ·
  have ho: ¬rL t k bits=true:=by rw[rL,h];simpa using hk
  refine .inr ⟨by rw[mO,if_neg ho,if_neg hk],by rw[lh,if_neg ho],fun q _=> ?_⟩
  rw[←Bool.not_eq_true];intro hw
  exact hk (aap hw).2.2
variable {t u:List Rt} {r:Rt} {k:Key} {bits:Int}
theorem akl(he:dA t [⟨r,false⟩]=0):ei t ⟨r,false⟩=0∧cj t [⟨r,false⟩]=iE t ⟨r,false⟩:=by
 have hr:cr t=true:=by
  cases h:cr t with
  |true=>rfl
  |false=>rw[dA,if_neg (by rw[h];simp)]at he;omega
 have h2:=he
 rw[dA,if_pos hr,gK]at h2
 have hc:ei t ⟨r,false⟩=0:=by
  apply Classical.byContradiction;intro hn
  rw[if_neg hn]at h2;exact hn h2
 exact⟨hc,by rw[cj,if_pos he,gK,if_pos hc];rfl⟩
theorem wa{c:Ch}(he:ei t c=0):cq c.r.p=true:=by
 apply Classical.byContradiction;intro hn
 rw[ei,if_neg hn]at he;omega
theorem aaq(hr:cr t=true)(he:ei t ⟨r,false⟩=0)(x:Rt):x∈iE t ⟨r,false⟩↔x=r∨(x∈t∧x.p≠r.p):=by
 have hm:cq r.p=true:=wa he
 have ho:=rN hr
 rw[iE,if_pos he,if_neg (by simp)]
 by_cases hb:jw t r.p=true
 ·
  rw[if_pos hb]
  obtain⟨r0,_,h1,h2⟩:=tY hb
  have hn:=(List.getElem?_eq_some_iff.1 h1).1
  have bW: ∀j y,t[j]? =some y→j≠cF t r.p→y.p≠r.p:=fun j y hy hj e=>by
   rcases Nat.lt_or_gt_of_ne hj with g|g
   ·
    have:=ho.at hy h1 g;rw[e,h2,rM hm]at this;cases this
   ·
    have:=ho.at h1 hy g;rw[e,h2,rM hm]at this;cases this
  constructor
  ·
   intro hx
   obtain⟨j,hj⟩:=List.mem_iff_getElem?.1 hx
   by_cases e:cF t r.p=j
   ·
    subst e
    rw[List.getElem?_set_self hn]at hj
    exact .inl (Option.some.inj hj).symm
   ·
    rw[List.getElem?_set_ne e]at hj
    exact .inr ⟨List.mem_of_getElem? hj,bW j x hj fun h=>e h.symm⟩
  ·
   rintro(rfl|⟨hx,hp⟩)
   ·
    exact List.mem_of_getElem? (List.getElem?_set_self hn)
   ·
    obtain⟨j,hj⟩:=List.mem_iff_getElem?.1 hx
    have e:cF t r.p≠j:=fun e=>by
     subst e;rw[h1]at hj;cases hj;exact hp h2
    exact List.mem_of_getElem? ((List.getElem?_set_ne e).trans hj)
 ·
  rw[if_neg hb]
  have iF: ∀y∈t,y.p≠r.p:=fun y hy e=>hb (CW hr hm hy e).2
  have e:x∈t↔x∈t.take (cF t r.p)∨x∈t.drop (cF t r.p):=by
   rw[←List.mem_append,List.take_append_drop]
  simp only[List.mem_append,List.mem_cons]
  constructor
  ·
   rintro(h|h|h)
   ·
    exact .inr ⟨e.2 (.inl h),iF x (e.2 (.inl h))⟩
   ·
    exact .inl h
   ·
    exact .inr ⟨e.2 (.inr h),iF x (e.2 (.inr h))⟩
  ·
   rintro(h|⟨h,_⟩)
   ·
    exact .inr (.inl h)
   ·
    rcases e.1 h with h|h
    ·
     exact .inl h
    ·
     exact .inr (.inr h)
variable {t u:List Rt} {r:Rt} {q p:cJ}
theorem Oa(hp:cq p=true)(hq:cq q=true)(h:dL p q=false)(hn:p≠q):dL q p=true:=by
 rw[lV hq hp]
 have h1: ¬dL p q=true:=by rw[h];simp
 rw[lV hp hq]at h1
 have h2: ¬(p.bits=q.bits∧p.key.toNat=q.key.toNat∧p.len=q.len):=fun e=>hn (RU.2 e)
 omega
theorem Ob(hp:cq p=true)(hq:cq q=true)(h:dL p q=true):dL q p=false:=by
 cases hx:dL q p with
 |false=>rfl
 |true=>rw[lV hq hp]at hx;rw[lV hp hq]at h;omega
theorem Oc(hp:cq p=true)(h:dL p q=true):p≠q:=fun e=>by subst e;rw[rM hp]at h;cases h
theorem Od{a b c:cJ}(ha:cq a=true)(hb:cq b=true)(hc:cq c=true)(h1:dL a b=true)(h2:dL b c=true):dL a c=true:=by
 rw[lV ha hb]at h1;rw[lV hb hc]at h2;rw[lV ha hc];omega
def uB(t:List Rt)(q:cJ):List Rt:=t.filter fun x=>dL x.p q
def qT(t:List Rt)(q:cJ):List Rt:=t.filter fun x=>dL q x.p
theorem filter_all{α:Type}{f:α→Bool}{l:List α}(h: ∀x∈l,f x=true):l.filter f=l:=List.filter_eq_self.2 h
theorem filter_none{α:Type}{f:α→Bool}{l:List α}(h: ∀x∈l,f x=false):l.filter f=[]:=List.filter_eq_nil_iff.2 fun x hx=>by rw[h x hx];simp
theorem Ord.ext: ∀{s t:List Rt},Ord s→Ord t→(∀x,x∈s↔x∈t)→s=t
 |[],[],_,_,_=>rfl
 |[],b::t,_,_,h=>by have:=(h b).2 (List.mem_cons_self);cases this
 |a::s,[],_,_,h=>by have:=(h a).1 (List.mem_cons_self);cases this
 |a::s,b::t,hs,ht,h=>by
  have ha:=(List.pairwise_cons.1 hs.less)
  have hb:=(List.pairwise_cons.1 ht.less)
  have ma:=hs.may a List.mem_cons_self
  have mb:=ht.may b List.mem_cons_self
  have e:a=b:=by
   apply Classical.byContradiction;intro hn
   rcases List.mem_cons.1 ((h a).1 List.mem_cons_self)with h1|h1
   ·
    exact hn h1
   ·
    rcases List.mem_cons.1 ((h b).2 List.mem_cons_self)with h2|h2
    ·
     exact hn h2.symm
    ·
     have h3:=hb.1 a h1
     have h4:=ha.1 b h2
     rw[Ob mb ma h3]at h4;cases h4
  subst e
  have bW: ∀x,(∀y∈s,dL a.p y.p=true)→x∈s→x≠a:=fun x hy hx e=>by
   subst e;have:=hy x hx;rw[rM ma]at this;cases this
  rw[Ord.ext (hs.sub (List.sublist_cons_self _ _)) (ht.sub (List.sublist_cons_self _ _)) fun x=>⟨fun hx=> ?_,fun hx=> ?_⟩]
  ·
   rcases List.mem_cons.1 ((h x).1 (List.mem_cons_of_mem _ hx))with h1|h1
   ·
    exact absurd h1 (bW x ha.1 hx)
   ·
    exact h1
  ·
   rcases List.mem_cons.1 ((h x).2 (List.mem_cons_of_mem _ hx))with h1|h1
   ·
    subst h1;have:=hb.1 x hx;rw[rM ma]at this;cases this
   ·
    exact h1
theorem aar(h:cr t=true)(hq:cq q=true):(∀x∈t.take (cF t q),dL x.p q=true)∧ ∀x∈t.drop (cF t q),dL x.p q=false:=by
 obtain⟨h1,h2,h3⟩:=Mk (p:=behind t q) (n:=t.length) fun a b=>Mm h hq a b
 constructor
 ·
  intro x hx
  obtain⟨i,hi⟩:=List.mem_iff_getElem?.1 hx
  have eX:=(List.getElem?_eq_some_iff.1 hi).1
  rw[List.length_take]at eX
  rw[List.getElem?_take,if_pos (by omega)]at hi
  have:=h2 i (by have:cF t q=bs (behind t q) t.length:=rfl;omega)
  simpa[behind,hi]using this
 ·
  intro x hx
  obtain⟨i,hi⟩:=List.mem_iff_getElem?.1 hx
  rw[List.getElem?_drop]at hi
  have eX:=(List.getElem?_eq_some_iff.1 hi).1
  have:=h3 (cF t q+i) (Nat.le_add_right _ _) eX
  simpa[behind,hi]using this
theorem Oe(h:cr t=true)(hq:cq q=true):t.take (cF t q)=uB t q∧(jw t q=true→t.drop (cF t q+1)=qT t q)∧(jw t q=false→t.drop (cF t q)=qT t q):=by
 obtain⟨h1,h2⟩:=aar h hq
 have ho:=rN h
 have e:t=t.take (cF t q)++t.drop (cF t q):=(List.take_append_drop _ _).symm
 have hm: ∀x∈t,cq x.p=true:=ho.may
 have mt: ∀x∈t.take (cF t q),x∈t:=fun x hx=>List.mem_of_mem_take hx
 have md: ∀x∈t.drop (cF t q),x∈t:=fun x hx=>List.mem_of_mem_drop hx
 have k1:t.take (cF t q)=uB t q:=by
  unfold uB
  conv=>rhs;rw[e]
  rw[List.filter_append,filter_all h1,filter_none h2,List.append_nil]
 have k2:qT t q=qT (t.drop (cF t q)) q:=by
  unfold qT
  conv=>lhs;rw[e]
  rw[List.filter_append,filter_none (l:=t.take (cF t q)) fun x hx=>Ob (hm x (mt x hx)) hq (h1 x hx),List.nil_append]
 refine⟨k1,fun hb=> ?_,fun hb=> ?_⟩
 ·
  obtain⟨x,hx,hi,hp⟩:=tY hb
  obtain⟨eX,nR⟩:=List.getElem?_eq_some_iff.1 hi
  have e2:t.drop (cF t q)=x::t.drop (cF t q+1):=by rw[←nR,List.getElem_cons_drop]
  rw[k2,e2,qT,List.filter_cons,hp,rM hq]
  simp only[Bool.false_eq_true,if_false]
  refine(filter_all fun y hy=> ?_).symm
  obtain⟨j,hj⟩:=List.mem_iff_getElem?.1 hy
  rw[List.getElem?_drop]at hj
  have:=CU h (cF t q) (cF t q+1+j) x y (by omega) hi hj
  rw[hp]at this;exact this
 ·
  rw[k2]
  refine(filter_all fun y hy=> ?_).symm
  refine Oa (hm y (md y hy)) hq (h2 y hy) fun ep=> ?_
  have:=(CW h hq (md y hy) ep).2
  rw[hb]at this;cases this
theorem aas(h:cr t=true)(he:ei t ⟨r,false⟩=0):iE t ⟨r,false⟩=uB t r.p++r::qT t r.p:=by
 obtain⟨k1,k2,k3⟩:=Oe h (wa he)
 rw[iE,if_pos he,if_neg (by simp)]
 by_cases hb:jw t r.p=true
 ·
  obtain⟨x,hx,hi,hp⟩:=tY hb
  have eX:=(List.getElem?_eq_some_iff.1 hi).1
  rw[if_pos hb,List.set_eq_take_append_cons_drop,if_pos eX,k1,k2 hb]
 ·
  rw[if_neg hb]
  show t.take (cF t r.p)++r::t.drop (cF t r.p)=_
  rw[k1,k3 (by simpa using hb)]
theorem Of(h:cr t=true)(he:ei t ⟨r,true⟩=0):iE t ⟨r,true⟩=uB t r.p++qT t r.p:=by
 have hm:=wa he
 obtain⟨k1,k2,k3⟩:=Oe h hm
 have hb:jw t r.p=true:=by
  apply Classical.byContradiction;intro hn
  rw[ei,if_pos hm,if_neg hn,if_pos rfl]at he;omega
 rw[iE,if_pos he,if_pos rfl]
 show t.take (cF t r.p)++t.drop (cF t r.p+1)=_
 rw[k1,k2 hb]
theorem Og(h:Ord t)(hq:cq q=true):t.filter (fun x=>decide (x.p≠q))=uB t q++qT t q:=by
 refine Ord.ext (h.sub List.filter_sublist) ⟨fun x hx=> ?_,?_⟩ fun x=> ?_
 ·
  rcases List.mem_append.1 hx with h1|h1<;>exact h.may x (List.mem_filter.1 h1).1
 ·
  refine List.pairwise_append.2 ⟨h.less.sublist List.filter_sublist,h.less.sublist List.filter_sublist,fun a ha b hb=> ?_⟩
  have ha:=List.mem_filter.1 ha
  have hb:=List.mem_filter.1 hb
  exact Od (h.may a ha.1) hq (h.may b hb.1) ha.2 hb.2
 ·
  rw[List.mem_append,List.mem_filter,uB,qT,List.mem_filter,List.mem_filter]
  constructor
  ·
   rintro⟨h1,h2⟩
   cases h3:dL x.p q with
   |true=>exact .inl ⟨h1,rfl⟩
   |false=>exact .inr ⟨h1,Oa (h.may x h1) hq h3 (by simpa using h2)⟩
  ·
   rintro(⟨h1,h2⟩|⟨h1,h2⟩)
   ·
    exact⟨h1,by simpa using Oc (h.may x h1) h2⟩
   ·
    exact⟨h1,by simpa using(Oc hq h2).symm⟩
theorem aat(h:Ord t)(hr:cq r.p=true):Ord (uB t r.p++r::qT t r.p):=by
 refine⟨fun x hx=> ?_,?_⟩
 ·
  rcases List.mem_append.1 hx with h1|h1
  ·
   exact h.may x (List.mem_filter.1 h1).1
  ·
   rcases List.mem_cons.1 h1 with rfl|h1
   ·
    exact hr
   ·
    exact h.may x (List.mem_filter.1 h1).1
 ·
  refine List.pairwise_append.2 ⟨h.less.sublist List.filter_sublist,List.pairwise_cons.2 ⟨fun y hy=>(List.mem_filter.1 hy).2,h.less.sublist List.filter_sublist⟩,fun a ha b hb=> ?_⟩
  have ha:=List.mem_filter.1 ha
  rcases List.mem_cons.1 hb with rfl|hb
  ·
   exact ha.2
  ·
   have hb:=List.mem_filter.1 hb
   exact Od (h.may a ha.1) hr (h.may b hb.1) ha.2 hb.2
theorem AF(h:cr t=true)(c:Ch):cr (iE t c)=true:=by
 by_cases he:ei t c=0
 ·
  refine UQ ?_ (Mw (B9 h) c)
  obtain⟨r,g⟩:=c
  cases g with
  |false=>rw[aas h he];exact aat (rN h) (wa he)
  |true=>rw[Of h he,←Og (rN h) (wa he)];exact(rN h).sub List.filter_sublist
 ·
  rw[iE,if_neg he];exact h
theorem aau(h:cr t=true)(hq:cq q=true):(t.any fun x=>decide (x.p=q))=jw t q:=by
 cases hb:jw t q with
 |true=>
  obtain⟨x,hx,_,hp⟩:=tY hb
  exact List.any_eq_true.2 ⟨x,hx,by simp[hp]⟩
 |false=>
  refine List.any_eq_false.2 fun x hx=> ?_
  have hn:x.p≠q:=fun e=>by have:=(CW h hq hx e).2;rw[hb]at this;cases this
  simp[hn]
theorem aav(h:cr t=true)(he:ei t ⟨r,true⟩=0):iE t ⟨r,true⟩=t.filter fun x=>decide (x.p≠r.p):=by rw[Of h he,Og (rN h) (wa he)]
end Go.Kb
namespace Go.aA
open Go.Kb
section
variable {α:Type} {f:α→Nat} {xs ys zs ts:List α} {a b c m i j k n s e:Nat}
def Bk(f:α→Nat)(xs ys:List α)(c lo hi:Nat):Prop:= ∀s,lo≤s→s<hi→s%c=0→Stb f (DA xs s (min (s+c) xs.length)) (DA ys s (min (s+c) xs.length))
end
open Go.Kb
open Go.Kb
variable {t ts:List Rt} {k:Key} {bits:Int} {p:cJ}
def Gl(ts:List Rt):List Rt:=ts.filter fun r=>decide (r.p.bits=32)
def Oh:Rt:=⟨⟨0,-1,0#128⟩,0⟩
def AG(ts:List Rt)(k:Key)(bits:Int)(i:Nat)(r:Rt):Prop:=
 (r=Oh∧ ∀q∈ts.take i,nB k bits q=false)∨(r∈ts∧nB k bits r=true∧ ∀q∈ts.take i,nB k bits q=true→q.p.len≤r.p.len)
theorem AG.zero:AG ts k bits 0 Oh:= .inl ⟨rfl,fun q hq=>by simp at hq⟩
theorem aaw{r:Rt}(h:nB k bits r=true):cq r.p=true:=by
 simp only[nB,tD,Bool.and_eq_true]at h;exact h.2.1.1
theorem aax{r:Rt}(h:nB k bits r=true):0≤r.p.len:=((pw _).1 (aaw h)).2.1
theorem AG.none{r:Rt}(hr:cr ts=true)(hk:cq ⟨bits,bits,k⟩=true)(h:AG ts k bits ts.length r)(hl:r.p.len<0):mO ts k bits=6∧lh ts k bits=fQ:=by
 rcases h with⟨_,h2⟩|⟨_,h3,_⟩
 ·
  rw[List.take_length]at h2
  rcases N9 (k:=k) (bits:=bits) hr with⟨_,h4,h5,_⟩|⟨h4,h5,_⟩
  ·
   rw[h2 _ h4]at h5;cases h5
  ·
   rw[if_pos hk]at h4;exact⟨h4,h5⟩
 ·
  have:=aax h3;omega
theorem aay(hr:cr ts=true)(hk:cq ⟨bits,bits,k⟩=false):mO ts k bits=1∧lh ts k bits=fQ:=by
 rcases N9 (k:=k) (bits:=bits) hr with⟨_,_,h5,_⟩|⟨h4,h5,_⟩
 ·
  simp only[nB,tD,Bool.and_eq_true,decide_eq_true_eq]at h5
  obtain⟨e1,⟨e2,e3⟩,e4⟩:=h5
  obtain⟨a1,a2,a3,a4⟩:=(pw _).1 e2
  have:cq ⟨bits,bits,k⟩=true:=(pw _).2 ⟨by rw[←e1];exact a1,by show 0≤bits;omega,Int.le_refl _,by show eu k bits=k;rw[←e1];exact e3⟩
  rw[hk]at this;cases this
 ·
  rw[if_neg (by rw[hk];simp)]at h4;exact⟨h4,h5⟩
end Go.aA
namespace Go.Proofs.YtaipiecplldinaaGreat
open Go.aA Go.Kb
open Go.aA Go.Kb
open Go.RowKit
theorem aaz{f g:cB}:bg f=bg g↔vv f.ak=vv g.ak∧f.table.xs=g.table.xs:=by
 simp only[bg,FV.mk.injEq]
theorem aaA(w:World)(f:cB)(g:cB)(hf:Deep.bb (hp w) f)(hg:Deep.bb (hp w) g):Calls Tryz.prog 23 #[.agg (bU f), .agg (bU g)] w fun e w'=>e= .returned (.bool (decide (bg f=bg g)))∧Mem w [] w':=by
 have AB:cm w f:=⟨hf⟩
 have ghg:cm w g:=⟨hg⟩
 have hbf:=hf.2.1.bd
 have hbg:=hg.2.1.bd
 refine ba (args:=[_,_]) Tryz.func23 rfl Tryz.ntmps23 rfl ?_
 change Cw _ _ _ _ _ [(0, .agg (bU f)),(1, .agg (bU g))] []
 refine Gc ?_
 refine bY rfl fun b2=> ?_
 refine bY rfl fun b3=> ?_
 refine Gs ?_
 refine Gc ?_
 refine Gs ?_
 refine ag (gD rfl) ?_
 refine Gs ?_
 refine ag (gD rfl) ?_
 iterate 2 refine Gs ?_
 iterate 4 refine Gg ?_
 refine g9 rfl rfl rfl (fun hg=>cE (dy (aG hg rfl) (dy (aG hg rfl) gB)) (by simp only[Z0,Z1,Z2,Z3,Z4,Z5,Z6,Z7,Z8,Z9]at hg;omega)) ?_
 iterate 2 refine Gs ?_
 refine Gc ?_
 refine aq (.inl rfl) (aJ rfl (al rfl)) (fun w1 hw=> ?_)
 exact⟨congrArg (fun b=>Ending.returned (Value.bool b)) ((by rw[Bool.eq_iff_iff];simp only[Bool.and_eq_true,decide_eq_true_eq];exact aaz.symm)),ah.mem hw⟩
instance akm{w0:World}{L:List ai}{f:cB}{g:cB}[hf:aW w0 L f][hg:aW w0 L g]:cI Tryz.prog 23 w0 L [.agg (bU f), .agg (bU g)] (.bool (decide (bg f=bg g))) (True):=⟨fun hp w hw=>aaA w f g (hf.h w hw) (hg.h w hw)⟩
end Go.Proofs.YtaipiecplldinaaGreat
namespace Go.Kb
open Go.aA
def Oi:Key:=oF fun i=>if i=0 then 10 else 0
def wb:Key:=oF fun i=>if i=0 then 10 else if i=1 then 1 else 0
def qa(h:UInt16):Rt:=⟨⟨32,8,Oi⟩,h⟩
def HS:CV×Int:=n7 6 2 64
def HT:FV×Int:=ji HS.1
def DB:FV×Int:=cC HT.1 [⟨qa 7,false⟩]
def wc:FV×Int:=c8 DB.1.ak.ae
theorem aaB:HS.2=0:=by decide+kernel
theorem aaC:HT.2=0:=by decide+kernel
theorem aaD:DB.2=0:=by decide+kernel
theorem aaE:wc.2=0:=by decide+kernel
theorem aaF:nD wc.1 wb 32=0:=by decide+kernel
theorem aaG:(nC wc.1 wb 32).dK=7:=by decide+kernel
theorem aaH:wc.1.table.length=1:=by decide+kernel
theorem aaI:gx wc.1=true:=by decide+kernel
theorem aaJ:sN 6 2 64=4:=by decide+kernel
end Go.Kb
namespace Go.Proofs.YtaipiecplldinaaGreat
open Go.aA Go.Kb
open Go.RowKit
theorem aaK{f:cB}{v:FV}(e:bg f=v)(h:MU v=true):dW f.ak.ae∧f.ak.at_.xs.length≤1000000∧f.table.xs.length≤1000000:=by
 subst e
 simp only[MU,Bool.and_eq_true,decide_eq_true_eq]at h
 exact⟨pE h.1.1,h.1.2,h.2⟩
theorem aaL(w:World)(h:UInt16):Calls Tryz.prog 53 #[.int .u16 (h.toNat:Nat)] w fun e w'=>e= .returned (.agg (ax (qa h)))∧Mem w [] w':=by
 refine ba (args:=[_]) Tryz.func53 rfl Tryz.ntmps53 rfl ?_
 change Cw _ _ _ _ _ [(0, .int .u16 (h.toNat:Nat))] []
 refine Gc ?_
 refine bH fun b2=> ?_
 refine Gc ?_
 refine ag (cS (v:= .agg (cT Oi)) rfl (fun w=>by kernel_rfl)) ?_
 refine ag (cS (v:= .agg (da (qa h).p)) rfl (fun w=>by kernel_rfl)) ?_
 refine Gs ?_
 refine ag (cS (v:= .agg (ax (qa h))) rfl (fun w=>by kernel_rfl)) ?_
 refine Gs ?_
 refine Gc ?_
 refine aq (.inl rfl) (aJ rfl (cf rfl)) (fun w1 hw=> ?_)
 exact⟨rfl,ah.mem hw⟩
instance akn{w0:World}{L:List ai}{h:UInt16}:cI Tryz.prog 53 w0 L [.int .u16 (h.toNat:Nat)] (.agg (ax (qa h))) (True):=⟨fun hp w hw=>aaL w h⟩
theorem aaM(w:World):Calls Tryz.prog 20 #[] w fun e w'=>e= .returned (.bool true)∧Mem w [] w':=by
 refine ba (args:=[]) Tryz.func20 rfl Tryz.ntmps20 rfl ?_
 change Cw _ _ _ _ _ [] []
 refine Gc ?_
 refine Gs ?_
 refine Gc ?_
 refine bo rfl trivial fun p0 Ht=> ?_
 have yj:cv p0=HS.1:=Ht
 have iH:(n7 6 2 64).2=0:=aaB
 have aaN:dW p0:=pE (by rw[yj];decide+kernel)
 refine Gs ?_
 refine ag (aU (v:= .agg (aD p0)) rfl rfl) ?_
 refine ag (aU (v:= .int .i64 ((n7 6 2 64).2)) rfl rfl) ?_
 refine bH fun b1=> ?_
 iterate 2 refine Gs ?_
 refine Gc ?_
 refine Gs ?_
 refine bo rfl aaN fun fO Aq=> ?_
 have HU:bg fO=HT.1:=by rw[Aq,yj];rfl
 have iI:(ji (cv p0)).2=0:=by rw[yj];exact aaC
 have aaO:=aaK HU (by decide+kernel)
 refine Gs ?_
 refine ag (aU (v:= .agg (bU fO)) rfl rfl) ?_
 refine ag (aU (v:= .int .i64 ((ji (cv p0)).2)) rfl rfl) ?_
 refine bH fun b3=> ?_
 iterate 2 refine Gs ?_
 refine Gc ?_
 refine rv [3,4,8,9,2003,2008,4004] [[],[],[],[],[3],[3,4],[3,4],[3,4],[],[3,4,8],[3,4,8,9]] [0,1,2,3,4,5,6,7,8,9,10] [ar b3 (bU fO) 54,fz fO] [(3,ru fN 20 1 [(⟨qa 7,false⟩:Ch)]),(8,lW Tryz.prog 54)] (by kernel_rfl) (fun _ hw=>ah.mem hw) (by kernel_rfl) (by kernel_rfl) ?_
 refine an rfl (eJ rfl) ?_
 refine vm rfl (cE (vs:=[.int .u16 ((7:UInt16).toNat:Int)]) rfl trivial) ?_
 refine an rfl (tl rfl) ?_
 refine pA (m:=ru fN 20 1 [(⟨qa 7,false⟩:Ch)]) rfl rfl (Fh (enc:=fN) (c:=20) (n:=1) (vals:=[.agg (fN (⟨qa 7,false⟩:Ch))]) [(⟨qa 7,false⟩:Ch)] rfl rfl rfl (by decide) (by decide)) (Cert.one (i:=8) rfl rfl rfl kZ (Cert.none rfl)) fun DC=> ?_
 change Ln _ _ _ _ _ _ _ _ (cD _ _ (Sv.val ⟨false,DC,0,1,1,none⟩)) (own fN 20 ⟨false,DC,0,1,1,none⟩ [(⟨qa 7,false⟩:Ch)]::_) _
 refine tH rfl rfl aaO (fun e x w hw=>ah.mem hw) (Cert.one (i:=8) rfl rfl rfl kZ (Cert.none rfl)) fun vR Hg=>⟨fun _ hw=>ah.mem hw,?_⟩
 have e25:bg vR=DB.1:=by rw[Hg,HU];rfl
 have iJ:(cC (bg fO) [(⟨qa 7,false⟩:Ch)]).2=0:=by rw[HU];exact aaD
 have Oj:cv vR.ak.ae=DB.1.ak.ae:=congrArg (fun z:FV=>z.ak.ae) e25
 refine an rfl (aE rfl) ?_
 refine an rfl (aU (v:= .agg (bU vR)) rfl rfl) ?_
 refine an rfl (aU (v:= .int .i64 ((cC (bg fO) [(⟨qa 7,false⟩:Ch)]).2)) rfl rfl) ?_
 refine pA (m:=lW Tryz.prog 54) rfl rfl kZ (Cert.none rfl) fun b5=> ?_
 change Ln _ _ _ _ _ _ _ _ (cD _ _ (.pointer (some ⟨b5,0,none⟩))) (ar b5 (bU mf) 54::_) _
 refine dN rfl (pz rfl rfl ⟨fun _ hw=>ah.mem hw,?_⟩)
 refine an rfl (bp rfl) ?_
 refine Gc ?_
 iterate 2 refine Gs ?_
 refine ag (gD rfl) ?_
 refine bo rfl trivial fun az sX=> ?_
 have DD:bg az=wc.1:=by rw[sX,Oj];rfl
 have iK:(c8 (cv vR.ak.ae)).2=0:=by rw[Oj];exact aaE
 have iL:az.table.xs.length=1:=by rw[show az.table.xs=wc.1.table from congrArg FV.table DD];exact aaH
 have iM:nD (bg az) wb 32=0:=by rw[DD];exact aaF
 have iN:(nC (bg az) wb 32).dK=7:=by rw[DD];exact aaG
 have iO:gx (bg az)=true:=by rw[DD];exact aaI
 have ic:sN 6 2 64=4:=aaJ
 refine Gs ?_
 refine ag (aU (v:= .agg (bU az)) rfl rfl) ?_
 refine ag (aU (v:= .int .i64 ((c8 (cv vR.ak.ae)).2)) rfl rfl) ?_
 refine bH fun b7=> ?_
 iterate 2 refine Gs ?_
 refine Gc ?_
 refine Gs ?_
 refine ag (cS (v:= .agg (cT wb)) rfl (fun w=>by kernel_rfl)) ?_
 iterate 2 refine Gs ?_
 refine ag (aU (v:= .agg (ax (nC (bg az) wb 32))) rfl rfl) ?_
 refine ag (aU (v:= .int .i64 (nD (bg az) wb 32)) rfl rfl) ?_
 refine bH fun b9=> ?_
 iterate 2 refine Gs ?_
 refine Gc ?_
 iterate 3 refine Gs ?_
 refine eL rfl rfl rfl (by simp[iH,iI,iJ,iK,iM,iN,iL,iO,ic]) (Ry.yl (aE rfl)) ?_
 refine eL rfl rfl rfl (by simp[iH,iI,iJ,iK,iM,iN,iL,iO,ic]) (Ry.yl (ck rfl rfl rfl)) ?_
 refine ag (mz rfl (by simp[iH,iI,iJ,iK,iM,iN,iL,iO,ic]) rfl rfl) ?_
 refine Gs ?_
 refine eL rfl rfl rfl (by simp[iH,iI,iJ,iK,iM,iN,iL,iO,ic]) (Ry.yl (aE rfl)) ?_
 refine eL rfl rfl rfl (by simp[iH,iI,iJ,iK,iM,iN,iL,iO,ic]) (Ry.yl (ck rfl rfl rfl)) ?_
 refine ag (mz rfl (by simp[iH,iI,iJ,iK,iM,iN,iL,iO,ic]) rfl rfl) ?_
 refine Gs ?_
 refine eL rfl rfl rfl (by simp[iH,iI,iJ,iK,iM,iN,iL,iO,ic]) (Ry.yl (aE rfl)) ?_
 refine eL rfl rfl rfl (by simp[iH,iI,iJ,iK,iM,iN,iL,iO,ic]) (Ry.yl (ck rfl rfl rfl)) ?_
 refine ag (mz rfl (by simp[iH,iI,iJ,iK,iM,iN,iL,iO,ic]) rfl rfl) ?_
 refine Gs ?_
 refine eL rfl rfl rfl (by simp[iH,iI,iJ,iK,iM,iN,iL,iO,ic]) (Ry.yl (aE rfl)) ?_
 refine eL rfl rfl rfl (by simp[iH,iI,iJ,iK,iM,iN,iL,iO,ic]) (Ry.yl (ck rfl rfl rfl)) ?_
 refine ag (mz rfl (by simp[iH,iI,iJ,iK,iM,iN,iL,iO,ic]) rfl rfl) ?_
 refine Gs ?_
 refine eL rfl rfl rfl (by simp[iH,iI,iJ,iK,iM,iN,iL,iO,ic]) (Ry.yl (aI (o':=18) rfl rfl)) ?_
 refine eL rfl rfl rfl (by simp[iH,iI,iJ,iK,iM,iN,iL,iO,ic]) (Ry.yl (bJ rfl)) ?_
 refine eL rfl rfl rfl (by simp[iH,iI,iJ,iK,iM,iN,iL,iO,ic]) (Ry.yl (ck rfl rfl rfl)) ?_
 refine ag (mz rfl (by simp[iH,iI,iJ,iK,iM,iN,iL,iO,ic]) rfl rfl) ?_
 refine Gs ?_
 refine eL rfl rfl rfl (by simp[iH,iI,iJ,iK,iM,iN,iL,iO,ic]) (Ry.yl (aI (o':=9) rfl rfl)) ?_
 refine eL rfl rfl rfl (by simp[iH,iI,iJ,iK,iM,iN,iL,iO,ic]) (Ry.yl (bJ rfl)) ?_
 refine eL rfl rfl rfl (by simp[iH,iI,iJ,iK,iM,iN,iL,iO,ic]) (Ry.yl (kC rfl)) ?_
 refine eL rfl rfl rfl (by simp[iH,iI,iJ,iK,iM,iN,iL,iO,ic]) (Ry.yl (ck rfl rfl rfl)) ?_
 refine ag (mz rfl (by simp[iH,iI,iJ,iK,iM,iN,iL,iO,ic]) rfl rfl) ?_
 refine Gs ?_
 refine eL rfl rfl rfl (by simp[iH,iI,iJ,iK,iM,iN,iL,iO,ic]) (Ry.yl (eJ rfl)) ?_
 refine eL rfl rfl rfl (by simp[iH,iI,iJ,iK,iM,iN,iL,iO,ic]) (cE rfl trivial) ?_
 refine ag (mz rfl (by simp[iH,iI,iJ,iK,iM,iN,iL,iO,ic]) rfl rfl) ?_
 refine Gs ?_
 refine eL rfl rfl rfl (by simp[iH,iI,iJ,iK,iM,iN,iL,iO,ic]) (cE rfl trivial) ?_
 refine eL rfl rfl rfl (by simp[iH,iI,iJ,iK,iM,iN,iL,iO,ic]) (Ry.yl (ck rfl rfl rfl)) ?_
 refine ag (mz rfl (by simp[iH,iI,iJ,iK,iM,iN,iL,iO,ic]) rfl rfl) ?_
 refine Gs ?_
 refine Gc ?_
 refine aq (.inl rfl) (aJ rfl (al rfl)) (fun w1 hw=> ?_)
 exact⟨congrArg (fun b=>Ending.returned (Value.bool b)) ((by simp[ic])),ah.mem hw⟩
instance ako{w0:World}{L:List ai}:cI Tryz.prog 20 w0 L [] (.bool true) (True):=⟨fun hp w hw=>aaM w⟩
end Go.Proofs.YtaipiecplldinaaGreat
namespace Go.Kb
open Go.aA
theorem HV{x:Int}(h0:0≤x)(h1:x<256):((cU x).toNat:Int)=x:=by
 rw[cU,b8,Int.emod_eq_of_lt h0 h1]
 simp;omega
theorem yn{α:Type}{a b:List α}{n:Nat}(h:n=a.length):(a++b).drop n=b:=by subst h;simp
theorem DE{α:Type}{a b:List α}{n:Nat}(h:n=a.length):(a++b).take n=a:=by subst h;simp
theorem Ol{p:PV}{n:Int}(h:kH p n=true): ∃k d:UInt8,∃z:List UInt8,(k.toNat:Int)=p.kind∧(d.toNat:Int)=p.id∧(∀x∈z,x=0)∧
  (dg p n).1=[k,d]++(be p.gen 6++(be p.body.length 2++(p.body++(z++be (lY (jq p n.toNat)) 4))))∧jq p n.toNat=[k,d]++(be p.gen 6++(be p.body.length 2++(p.body++z)))∧(dg p n).2=0∧(z.length:Int)=n -14 -p.body.length:=by
 obtain⟨h1,h2,h3,h4,h5,h6⟩:=pF.1 h
 have hf:=qu.1 h1
 rw[dC,if_pos h1]at h6
 refine⟨cU p.kind,cU p.id,List.replicate (n.toNat -4 -10 -p.body.length) 0,HV (by omega) (by omega),HV h3 (by omega),fun x hx=>List.eq_of_mem_replicate hx,?_,?_,?_,?_⟩
 ·
  rw[dg,if_pos h];simp only[jq,List.append_assoc]
 ·
  simp only[jq,List.append_assoc]
 ·
  rw[dg,if_pos h]
 ·
  rw[List.length_replicate];omega
theorem AH{p:PV}{n:Int}(h:kH p n=true):((dg p n).1.length:Int)=n:=by
 obtain⟨k,d,z,_,_,_,e,_,_,hz⟩:=Ol h
 rw[e]
 simp only[List.length_append,List.length_cons,List.length_nil,iv]
 omega
theorem HW{p:PV}{n:Int}(h:kH p n=true):cy (dg p n).1=(p,0):=by
 have hl:=AH h
 obtain⟨k,d,z,hk,hd,hz,e,eB,_,oV⟩:=Ol h
 obtain⟨h1,h2,h3,h4,h5,h6⟩:=pF.1 h
 have hf:=qu.1 h1
 have xA:=h6
 rw[dC,if_pos h1]at xA
 have hn:((dg p n).1.length:Int)=n:=hl
 generalize hc:lY (jq p n.toNat)=C at e
 have hC:C<2^32:=by rw[←hc];exact Fs _
 generalize hb:(dg p n).1=b at*
 have e4:b=jq p n.toNat++be C 4:=by rw[e,eB];simp only[List.append_assoc]
 have l4:b.length -4=(jq p n.toNat).length:=by rw[e4,List.length_append,iv];omega
 have gZ:la b=jq p n.toNat:=by
  rw[la,l4,List.drop_zero,Nat.sub_zero,e4];exact DE rfl
 have De:de (vt b)=C:=by
  rw[vt,l4]
  have:b.drop (jq p n.toNat).length=be C 4:=by rw[e4];exact yn rfl
  rw[this,List.take_of_length_le (by rw[iv];omega),B8,Nat.mod_eq_of_lt hC]
 have oZ:b.getD 0 0=k:=by rw[e];rfl
 have rT:b.getD 1 0=d:=by rw[e];rfl
 have va:b.drop 2=be p.gen 6++(be p.body.length 2++(p.body++(z++be C 4))):=by rw[e];exact yn rfl
 have Om:b.drop 8=be p.body.length 2++(p.body++(z++be C 4)):=by
  rw[show(8:Nat)=2+6 from rfl,←List.drop_drop,va];exact yn (by rw[iv])
 have aaP:b.drop 10=p.body++(z++be C 4):=by
  rw[show(10:Nat)=8+2 from rfl,←List.drop_drop,Om];exact yn (by rw[iv])
 have aaQ:de ((b.drop 2).take (8 -2))=p.gen:=by
  rw[va,DE (by rw[iv]),B8,Nat.mod_eq_of_lt (Nat.lt_of_lt_of_eq h5 (by decide))]
 have HX:gT b=p.body.length:=by
  rw[gT,Om,DE (by rw[iv]),B8,Nat.mod_eq_of_lt (by omega)]
 have On:sG b={p with body:=[]}:=by
  rw[sG,aaQ,oZ,rT]
  obtain⟨pk,pi,pg,pb⟩:=p
  simp only at hk hd
  simp only[hk,hd]
 have aaR:jo b=false:=by
  cases vJ:jo b with
  |false=>rfl
  |true=>
   have h9:=zD.1 vJ k (by rw[e];simp)
   rw[h9]at hk
   have:((255:UInt8).toNat:Int)=255:=by decide
   omega
 have aaS:nu b=true:=by
  have hm:kH (sG b) b.length=true:=by
   rw[On,hn]
   exact pF.2 ⟨h1,h2,h3,h4,h5,by rw[dC,if_pos h1];simp only[List.length_nil];omega⟩
  rw[nu,hm,HX,hn,Bool.and_true,decide_eq_true_eq]
  exact h6
 have hzero:tM (mH b)=true:=by
  refine FF.2 fun x hx=>hz x ?_
  have aaT:(la b).drop (10+gT b)=z:=by
   rw[gZ,HX,eB,←List.drop_drop]
   have:([k,d]++(be p.gen 6++(be p.body.length 2++(p.body++z)))).drop 10=p.body++z:=by
    rw[show[k,d]++(be p.gen 6++(be p.body.length 2++(p.body++z)))=([k,d]++be p.gen 6++be p.body.length 2)++(p.body++z) by simp only[List.append_assoc]]
    exact yn (by simp only[List.length_append,List.length_cons,List.length_nil,iv])
   rw[this];exact yn rfl
  rw[mH,aaT]at hx
  exact List.mem_of_mem_take hx
 have aaU:(b.drop 10).take (10+gT b -10)=p.body:=by
  rw[aaP,HX];exact DE (by omega)
 rw[cy,if_neg (by rw[hn,h1];simp),if_neg (by rw[aaR];simp),if_neg (by rw[De,gZ,hc];exact fun h=>h rfl),if_neg (by rw[aaS];simp),if_neg (by rw[hzero];simp),On,aaU]
theorem aaV{x:Int}(h0:0≤x)(h1:x≤65535):((rk (cU (x/256)) (cU x)).toNat:Int)=x:=by
 have e2:((cU x).toNat:Int)=x%256:=by
  rw[cU,b8];simp;omega
 have e1:=HV (x:=x/256) (by omega) (by omega)
 rw[EJ]
 omega
theorem Oo: ∀(l:List Int) (i:Nat) (x:Int),l[i]? =some x→(gv l).getD (2*i) 0=cU (x/256)∧(gv l).getD (2*i+1) 0=cU x
 |y::r,0,x,h=>by obtain rfl:y=x:=by simpa using h
                 exact⟨rfl,rfl⟩
 |y::r,i+1,x,h=>by
  have h2:=Oo r i x (by simpa using h)
  have e:gv (y::r)=cU (y/256)::cU y::gv r:=rfl
  rw[e,show 2*(i+1)=2*i+1+1 by omega]
  exact h2
theorem aaW{l:List Int}(h: ∀x∈l,vu x=true):n9 (gv l)=l:=by
 refine List.ext_getElem? fun i=> ?_
 rcases Nat.lt_or_ge i l.length with hi|hi
 ·
  obtain⟨x,hx⟩: ∃x,l[i]? =some x:=⟨l[i],List.getElem?_eq_getElem hi⟩
  obtain⟨e1,e2⟩:=Oo l i x hx
  have jZ:=zE.1 (h x (List.mem_of_getElem? hx))
  rw[n9,List.getElem?_map,xk,List.getElem?_range (by omega),hx,Option.map_some,pG,e1,e2,aaV jZ.1 jZ.2]
 ·
  rw[List.getElem?_eq_none hi,List.getElem?_eq_none (by rw[Cs,xk];omega)]
theorem HY{r:RV}{n:Int}(h:mI r n=true):kH ⟨2,max 0 ((r.at_.length:Int) -1),r.gen,gv r.at_⟩ n=true:=by
 obtain⟨h1,h2,h3,h4⟩:=tN.1 h
 have hf:l5 n=true:=by
  cases hf:l5 n with
  |true=>rfl
  |false=>rw[dC,if_neg (by rw[hf];simp)]at h1;exact absurd rfl h1
 rw[jd]at h3
 have hr:dC n=n -16:=by rw[dC,if_pos hf]
 refine pF.2 ⟨hf, .inr rfl,?_,?_,h2,?_⟩
 ·
  show 0≤max 0 _;omega
 ·
  show max 0 _<(64:Int);omega
 ·
  show((gv r.at_).length:Int)≤_;rw[xk];omega
theorem Oq{r:RV}{n:Int}(h:mI r n=true):bE (cO r n).1=(r,0):=by
 have hp:=HW (HY h)
 have h4:=(tN.1 h).2.2.2
 rw[cO,if_pos h,bE,hp]
 have hl:(gv r.at_).length/2=r.at_.length:=by rw[xk];omega
 rw[if_neg (by simp),if_neg (by simp),if_neg,aaW h4]
 simp only[sI,Bool.not_eq_false,Bool.and_eq_true,decide_eq_true_eq]
 refine⟨⟨trivial,by rw[xk];omega⟩,?_⟩
 rw[hl]
theorem Ot{r:RV}{n:Int}(h:mI r n=true):((cO r n).1.length:Int)=n:=by
 rw[cO,if_pos h];exact AH (HY h)
theorem Ou{r:RV}{n:Int}(h:(cO r n).2=0):mI r n=true:=by
 cases hm:mI r n with
 |true=>rfl
 |false=>rw[cO,if_neg (by rw[hm];simp)]at h;cases h
theorem Ov{p:PV}{n:Int}(h:(dg p n).2=0):kH p n=true:=by
 cases hm:kH p n with
 |true=>rfl
 |false=>rw[dg,if_neg (by rw[hm];simp)]at h;cases h
open Go.aA
theorem qU{c:CV}{b:Nat}{o:Int}{f:Bool}{B:BV}(hb:b<c.blocks.length)(k:Int):aj {c with ops:=o,off:=f,blocks:=c.blocks.set b B} k=if k.toNat=b then B else aj c k:=by
 simp only[aj,List.getD,List.getElem?_set]
 by_cases h:b=k.toNat
 ·
  rw[if_pos h,if_pos (by omega),if_pos h.symm];rfl
 ·
  rw[if_neg h,if_neg (fun g=>h g.symm)]
structure Kd(L:List Int)(c d:CV):Prop where
 bT:dx c d
 ok:aV c=true→aV d=true
 ln:d.aQ=c.aQ
 DF: ∀b:Int,(aj c b).bad=true→aj d b=aj c b
 on:c.off=false→(∀f∈c.aQ,f.cut=false)→d.off=false
 ops:c.ops≤d.ops
 nm: ∀n∈L,n≠0→jX c (n -1)=true→jX d (n -1)=true∧bF d (n -1)=bF c (n -1)
structure Kp(L:List Int)(c d:CV):Prop extends Kd L c d where
 r0: ∀b:Int,b<2→(aj d b).pages=(aj c b).pages∧(aj d b).used=(aj c b).used
theorem Kd.cZ(L:List Int)(c:CV):Kd L c c:=⟨.cZ c,id,rfl,fun _ _=>rfl,fun h _=>h,Int.le_refl _,fun _ _ _ h=>⟨h,rfl⟩⟩
theorem Kp.cZ(L:List Int)(c:CV):Kp L c c:=⟨.cZ L c,fun _ _=>⟨rfl,rfl⟩⟩
theorem Kd.trans{L:List Int}{c d e:CV}(h:Kd L c d)(g:Kd L d e):Kd L c e where
 bT:=h.bT.trans g.bT
 ok:=fun k=>g.ok (h.ok k)
 ln:=g.ln.trans h.ln
 DF:=fun b hb=>by
  have h1:=h.DF b hb
  rw[←h1]at hb
  exact(g.DF b hb).trans h1
 on:=fun h1 h2=>g.on (h.on h1 h2) (by rw[h.ln];exact h2)
 ops:=Int.le_trans h.ops g.ops
 nm:=fun n hn h0 hp=>by
  obtain⟨h1,h2⟩:=h.nm n hn h0 hp
  obtain⟨g1,g2⟩:=g.nm n hn h0 h1
  exact⟨g1,g2.trans h2⟩
theorem Kp.trans{L:List Int}{c d e:CV}(h:Kp L c d)(g:Kp L d e):Kp L c e:=
 ⟨h.toKd.trans g.toKd,fun b hb=>⟨(g.r0 b hb).1.trans (h.r0 b hb).1,(g.r0 b hb).2.trans (h.r0 b hb).2⟩⟩
theorem Kd.sub{L M:List Int}{c d:CV}(h:Kd L c d)(hs: ∀n∈M,n∈L):Kd M c d:={h with nm:=fun n hn=>h.nm n (hs n hn)}
theorem Kp.sub{L M:List Int}{c d:CV}(h:Kp L c d)(hs: ∀n∈M,n∈L):Kp M c d:=⟨h.toKd.sub hs,h.r0⟩
theorem HZ{L:List Int}{c:CV}{b:Int}{o:Int}{f:Bool}{B:BV}(hh:gp c b=true)(hk:aV c=true→aV {c with ops:=o,off:=f,blocks:=c.blocks.set b.toNat B}=true)(aaX:(aj c b).bad=true→B=aj c b)
  (fA:c.off=false→(∀f∈c.aQ,f.cut=false)→f=false) (ho:c.ops≤o)
  (hn: ∀n∈L,n≠0→jX c (n -1)=true→(n -1)/c.pages=b→(n -1)%c.pages<B.used∧B.pages.getD ((n -1)%c.pages).toNat []=(aj c b).pages.getD ((n -1)%c.pages).toNat []):
  Kd L c {c with ops:=o,off:=f,blocks:=c.blocks.set b.toNat B} where
 bT:=⟨rfl,rfl,by simp⟩
 ok:=hk
 ln:=rfl
 DF:=fun k hb=>by
  obtain⟨_,h2,h3⟩:=gq.1 hh
  rw[qU (by omega)]
  split
  ·
   rename_i e
   have e2:aj c k=aj c b:=by simp only[aj,e]
   rw[e2]at hb⊢
   exact aaX hb
  ·
   rfl
 on:=fA
 ops:=ho
 nm:=fun n hm h0 hp=>by
  obtain⟨_,h2,h3⟩:=gq.1 hh
  obtain⟨p1,p2,p3⟩:=lz.1 hp
  have e:=qU (c:=c) (o:=o) (f:=f) (B:=B) (show b.toNat<c.blocks.length by omega) ((n -1)/c.pages)
  by_cases h:(n -1)/c.pages=b
  ·
   rw[h,if_pos rfl]at e
   obtain⟨g1,g2⟩:=hn n hm h0 hp h
   refine⟨lz.2 ⟨p1,by simpa using p2,?_⟩,?_⟩
   ·
    show _<(aj _ ((n -1)/c.pages)).used
    rw[h,e];exact g1
   ·
    show(aj _ ((n -1)/c.pages)).pages.getD _ []=(aj c ((n -1)/c.pages)).pages.getD _ []
    rw[h,e];exact g2
  ·
   rw[if_neg (by omega)]at e
   refine⟨lz.2 ⟨p1,by simpa using p2,?_⟩,?_⟩
   ·
    show _<(aj _ ((n -1)/c.pages)).used
    rw[e];exact p3
   ·
    show(aj _ ((n -1)/c.pages)).pages.getD _ []=(aj c ((n -1)/c.pages)).pages.getD _ []
    rw[e]
theorem Kd.roots{L:List Int}{c:CV}{b:Int}{o:Int}{f:Bool}{B:BV}(hh:gp c b=true)(h2:2≤b)(h:Kd L c {c with ops:=o,off:=f,blocks:=c.blocks.set b.toNat B}):Kp L c {c with ops:=o,off:=f,blocks:=c.blocks.set b.toNat B}:=
 ⟨h,fun k hk=>by
  obtain⟨_,h3,h4⟩:=gq.1 hh
  rw[qU (by omega),if_neg (by omega)]
  exact⟨rfl,rfl⟩⟩
theorem Ow{c:CV}(h: ∀f∈c.aQ,f.cut=false):((br c).2&&(br c).1.cut)=false:=by
 rw[br]
 cases hf:c.aQ.find? fun f=>decide (f.op=c.ops)with
 |none=>rfl
 |some x=>simp only[h x (List.mem_of_find?_eq_some hf),Bool.and_false]
theorem aaY{L:List Int}{c:CV}{b:Int}{p:List UInt8}:Kd L c (fR c b (aj c b).used p):=by
 by_cases h:mF c b (aj c b).used p=true∧c.off=false∧(aj c b).bad=false∧(aj c b).used=(aj c b).used
 ·
  have e:fR c b (aj c b).used p=gG c b (aj c b).used p:=if_pos h
  have hk:=FT (c:=c) (b:=b) (g:=(aj c b).used) (p:=p)
  rw[e]at hk
  obtain⟨h1,h2,h3,_⟩:=h
  obtain⟨j1,j2,j3,j4,j5⟩:=iS.1 h1
  rw[e,gG]
  refine HZ j1 hk (fun g=>by rw[h3]at g;cases g) (fun _ g=>Ow g) (by omega) fun n _ _ hp hb=> ?_
  obtain⟨p1,p2,p3⟩:=lz.1 hp
  rw[hb]at p3
  have h0:0≤(n -1)%c.pages:=Int.emod_nonneg _ (by omega)
  refine⟨by simp only;omega,?_⟩
  simp only[List.getD]
  rw[List.getElem?_set_ne (by omega)]
 ·
  rw[fR,if_neg h];exact .cZ L c
theorem aaZ{L:List Int}{c:CV}{b:Int}:Kd L c (kG c b):=by
 by_cases h:nq c b=0
 ·
  have hk:=Lr (c:=c) (b:=b)
  rw[kG,if_pos h]at hk⊢
  have hh:gp c b=true:=by
   cases hq:gp c b with
   |true=>rfl
   |false=>rw[nq,if_neg (by rw[hq];simp)]at h;cases h
  refine HZ (o:=c.ops) (f:=c.off) hh hk (fun g=> ?_) (fun g _=>g) (Int.le_refl _) fun n _ _ hp hb=> ?_
  ·
   cases hB:aj c b with|mk a1 a2 a3 a4=>rw[hB]at g;simp only at g;rw[g]
  ·
   obtain⟨p1,p2,p3⟩:=lz.1 hp
   rw[hb]at p3
   exact⟨p3,rfl⟩
 ·
  rw[kG,if_neg h];exact .cZ L c
theorem Ox{c:CV}{b k:Int}:(aj (kG c b) k).pages=(aj c k).pages∧(aj (kG c b) k).used=(aj c k).used:=by
 rw[kG];split
 ·
  rename_i h
  have hh:gp c b=true:=by
   cases hq:gp c b with
   |true=>rfl
   |false=>rw[nq,if_neg (by rw[hq];simp)]at h;cases h
  obtain⟨_,h3,h4⟩:=gq.1 hh
  have e:=qU (c:=c) (o:=c.ops) (f:=c.off) (B:={aj c b with bad:=true}) (show b.toNat<c.blocks.length by omega) k
  rw[e]
  split
  ·
   rename_i e2;have e3:aj c k=aj c b:=by simp only[aj,e2]
   rw[e3];exact⟨rfl,rfl⟩
  ·
   exact⟨rfl,rfl⟩
 ·
  exact⟨rfl,rfl⟩
theorem AI{L:List Int}{c:CV}{b e:Int}:Kp L c (iV c b e):=by
 rw[iV];split
 ·
  exact⟨aaZ,fun k _=>Ox⟩
 ·
  exact .cZ L c
theorem AJ{L:List Int}{c:CV}{b:Int}{p:List UInt8}:Kd L c (bn c b p):=aaY.trans AI.toKd
theorem Oy{c:CV}{b k g:Int}{p:List UInt8}(h:k.toNat≠b.toNat):aj (fR c b g p) k=aj c k:=by
 rw[fR];split
 ·
  rename_i hk
  obtain⟨_,h3,h4⟩:=gq.1 (iS.1 hk.1).1
  rw[gG,qU (by omega),if_neg h]
 ·
  rfl
theorem DG{L:List Int}{c:CV}{b:Int}{p:List UInt8}(h2:2≤b):Kp L c (bn c b p):=
 ⟨AJ,fun k hk=>by
  have h1:=(AI (L:=L) (c:=fR c b (aj c b).used p) (b:=b) (e:=bC c b p)).r0 k hk
  rw[bn,h1.1,h1.2,Oy (by omega)];exact⟨rfl,rfl⟩⟩
def kg(L:List Int)(c:CV)(b:Int):Prop:= ∀n∈L,n≠0→(n -1)/c.pages≠b
theorem Oz{L:List Int}{c:CV}{b:Int}(hd: ∀n∈L,n≠0→jX c (n -1)=true→(n -1)/c.pages≠b):Kd L c (fE c b):=by
 by_cases h:nn c b=true∧c.off=false∧(aj c b).bad=false
 ·
  have hk:=FU (c:=c) (b:=b)
  rw[fE,if_pos h]at hk⊢
  obtain⟨h1,h2,h3⟩:=h
  have hh:=(np.1 h1).1
  rw[jH]at hk⊢
  exact HZ hh hk (fun g=>by rw[h3]at g;cases g) (fun _ g=>Ow g) (by omega) fun n hn h0 hp hb=>absurd hb (hd n hn h0 hp)
 ·
  rw[fE,if_neg h];exact .cZ L c
theorem aa0{L:List Int}{c:CV}{b:Int}(hd:kg L c b):Kd L c (fE c b):=Oz fun n hn h0 _=>hd n hn h0
theorem aa1{L:List Int}{c:CV}{b:Int}(hb:b<2):Kd L c (cY c b):=(Oz fun n _ _ hp=>by have:=(lz.1 hp).1;omega).trans AI.toKd
theorem OA{L:List Int}{c:CV}{b:Int}(hd:kg L c b):Kd L c (cY c b):=(aa0 hd).trans AI.toKd
theorem yo{c:CV}{b k:Int}(h:k.toNat≠b.toNat):aj (fE c b) k=aj c k:=by
 rw[fE];split
 ·
  rename_i hk
  obtain⟨_,h3,h4⟩:=gq.1 (np.1 hk.1).1
  rw[jH,qU (by omega),if_neg h]
 ·
  rfl
theorem aa2{L:List Int}{c:CV}{b:Int}(h2:2≤b)(hd:kg L c b):Kp L c (cY c b):=
 ⟨OA hd,fun k hk=>by
  have h1:=(AI (L:=L) (c:=fE c b) (b:=b) (e:=dG c b)).r0 k hk
  rw[cY,h1.1,h1.2,yo (by omega)];exact⟨rfl,rfl⟩⟩
theorem kg.bT{L:List Int}{c d:CV}{b:Int}(h:kg L c b)(g:dx c d):kg L d b:=fun n hn h0=>by rw[g.pages];exact h n hn h0
theorem OB{L:List Int}: ∀(n:Nat) {c:CV} {b:Int},2≤b→kg L c b→Kp L c (fe n c b).1
 |0,c,b,h2,hd=>aa2 h2 hd
 |n+1,c,b,h2,hd=>by
  rw[fe];split
  ·
   exact DG h2
  ·
   exact(DG h2).trans (OB n h2 (hd.bT (gU _ _ _)))
theorem we{L:List Int}{c:CV}{b:Int}(h2:2≤b)(hd:kg L c b):Kp L c (cA c b).1:=OB _ h2 hd
theorem aa3{c:CV}{b g:Int}{p:List UInt8}(h:jG c b g p=7):(fR c b g p).off=true:=by
 rw[jG]at h
 by_cases h1:mF c b g p=true
 ·
  rw[if_pos h1]at h
  by_cases h2:c.off=true
  ·
   rw[fR,if_neg (fun k=>by rw[h2]at k;cases k.2.1)];exact h2
  ·
   rw[if_neg h2]at h
   by_cases h3:(aj c b).bad=true∨g≠(aj c b).used
   ·
    rw[if_pos h3]at h;cases h
   ·
    rw[if_neg h3]at h
    by_cases h4:(br c).2=true
    ·
     rw[if_pos h4,kF]at h
     have h5:(br c).1.cut=true:=by
      cases hc:(br c).1.cut with
      |true=>rfl
      |false=>rw[if_neg (by rw[hc];simp)]at h;cases h
     have xZ:(aj c b).bad=false:=by
      cases hb:(aj c b).bad with
      |true=>exact absurd (.inl hb) h3
      |false=>rfl
     rw[fR,if_pos ⟨h1,by simpa using h2,xZ,Classical.byContradiction fun k=>h3 (.inr k)⟩,gG,h4,h5];rfl
    ·
     rw[if_neg h4]at h;cases h
 ·
  rw[if_neg h1]at h;cases h
theorem OC(c:CV)(b e:Int):(iV c b e).off=c.off:=by
 rw[iV];split
 ·
  rw[kG];split<;>rfl
 ·
  rfl
theorem AK{c:CV}{b:Int}{p:List UInt8}(h:bC c b p=7):(bn c b p).off=true:=by rw[bn,OC];exact aa3 h
theorem H2{c:CV}{b:Int}(h:dG c b=7):(cY c b).off=true:=by
 rw[cY,OC]
 rw[dG]at h
 by_cases h1:nn c b=true
 ·
  rw[if_pos h1]at h
  by_cases h2:c.off=true
  ·
   rw[fE,if_neg (fun k=>by rw[h2]at k;cases k.2.1)];exact h2
  ·
   rw[if_neg h2]at h
   by_cases h3:(aj c b).bad=true
   ·
    rw[if_pos h3]at h;cases h
   ·
    rw[if_neg h3]at h
    by_cases h4:(br c).2=true
    ·
     rw[if_pos h4,kF]at h
     have h5:(br c).1.cut=true:=by
      cases hc:(br c).1.cut with
      |true=>rfl
      |false=>rw[if_neg (by rw[hc];simp)]at h;cases h
     rw[fE,if_pos ⟨h1,by simpa using h2,by simpa using h3⟩,jH,h4,h5];rfl
    ·
     rw[if_neg h4]at h;cases h
 ·
  rw[if_neg h1]at h;cases h
theorem OD: ∀(n:Nat) {c:CV} {b:Int},(fe n c b).2=7→(fe n c b).1.off=true
 |0,c,b,h=>H2 h
 |n+1,c,b,h=>by
  rw[fe]at h⊢
  by_cases h0:bC c b (hQ c)≠0
  ·
   rw[if_pos h0]at h⊢;exact AK h
  ·
   rw[if_neg h0]at h⊢;exact OD n h
theorem AL{c:CV}{b:Int}(h:(cA c b).2=7):(cA c b).1.off=true:=OD _ h
open Go.aA
def Pl(c:CV)(a:List Int):Prop:=(∀(i:Nat) (y:Int),a[i]? =some y→y≠0→l6 c (i:Int) y=true)∧ ∀(i j:Nat) (y:Int),a[i]? =some y→a[j]? =some y→y≠0→i=j
theorem H3{a:List Int}{i:Nat}{y:Int}:(a.take i).contains y=true↔ ∃j,j<i∧a[j]? =some y:=by
 rw[List.contains_iff_mem,List.mem_take_iff_getElem]
 constructor
 ·
  rintro⟨j,hj,e⟩
  exact⟨j,by omega,by rw[List.getElem?_eq_getElem (by omega),e]⟩
 ·
  rintro⟨j,hj,e⟩
  obtain⟨hl,e2⟩:=List.getElem?_eq_some_iff.1 e
  exact⟨j,by omega,e2⟩
theorem OE{c:CV}{a:List Int}:ry c a=true↔Pl c a:=by
 rw[zF]
 constructor
 ·
  intro h
  have hp: ∀(i:Nat) (y:Int),a[i]? =some y→y≠0→(a.take i).contains y=false∧l6 c (i:Int) y=true:=fun i y hy h0=>by
   have hi:=(List.getElem?_eq_some_iff.1 hy).1
   have h1:=h i hi
   rw[L9 (ob hy),decide_eq_false h0,Bool.false_or,Bool.and_eq_true,Bool.not_eq_true']at h1
   exact h1
  refine⟨fun i y hy h0=>(hp i y hy h0).2,fun i j y hi hj h0=> ?_⟩
  rcases Nat.lt_trichotomy i j with hl|hl|hl
  ·
   have:=(hp j y hj h0).1
   rw[H3.2 ⟨i,hl,hi⟩]at this;cases this
  ·
   exact hl
  ·
   have:=(hp i y hi h0).1
   rw[H3.2 ⟨j,hl,hj⟩]at this;cases this
 ·
  rintro⟨h1,h2⟩ i hi
  have hy:=List.getElem?_eq_getElem hi
  rw[L9 (ob hy)]
  by_cases h0:a[i]=0
  ·
   rw[decide_eq_true h0];rfl
  ·
   rw[h1 i _ hy h0,Bool.and_true,Bool.or_eq_true]
   right
   cases hc:(a.take i).contains a[i]with
   |false=>rfl
   |true=>
    obtain⟨j,hj,e⟩:=H3.1 hc
    have:=h2 i j _ hy e h0;omega
theorem AM{c:CV}{i n:Int}(h:l6 c i n=true):jX c (n -1)=true∧(cy (bF c (n -1))).2=0∧(cy (bF c (n -1))).1.kind=1∧(cy (bF c (n -1))).1.id=i:=by
 rw[l6,Bool.and_eq_true,Ct]at h
 simp only[Bool.and_eq_true,decide_eq_true_eq]at h
 exact⟨h.1,h.2.1.1,h.2.1.2,h.2.2⟩
theorem aa4{c:CV}{i n:Int}{p:PV}(h:jX c (n -1)=true)(h2:cy (bF c (n -1))=(p,0))(hk:p.kind=1)(hi:p.id=i):l6 c i n=true:=by
 rw[l6,h,h2,Ct]
 simp[hk,hi]
theorem Pl.kd{c d:CV}{a L:List Int}(h:Pl c a)(k:Kd L c d)(hs: ∀n∈a,n∈L):Pl d a:=
 ⟨fun i y hy h0=>by
  have h1:=h.1 i y hy h0
  obtain⟨g1,g2⟩:=k.nm y (hs y (List.mem_of_getElem? hy)) h0 (AM h1).1
  rw[l6,g1,g2]
  rw[l6,(AM h1).1]at h1
  exact h1,h.2⟩
theorem DH{c d:CV}{a L:List Int}(h:Pl c a)(k:Kd L c d)(hs: ∀n∈a,n∈L):a.map (eo d)=a.map (eo c):=by
 refine List.map_congr_left fun y hy=> ?_
 by_cases h0:y=0
 ·
  rw[h0];rfl
 ·
  obtain⟨i,hi⟩:=List.getElem?_of_mem hy
  obtain⟨_,g2⟩:=k.nm y (hs y hy) h0 (AM (h.1 i y hi h0)).1
  rw[eo,eo,iT,iT,g2]
theorem Pl.place{c:CV}{a:List Int}(h:Pl c a){n:Int}(hn:n∈a)(h0:n≠0):jX c (n -1)=true:=by
 obtain⟨i,hi⟩:=List.getElem?_of_mem hn
 exact(AM (h.1 i n hi h0)).1
structure eU(x:VV):Prop where
 bears:fF x.ae=true
 roots:(bL x.ae).2.2=0
 used:(bL x.ae).1%x.ae.pages<(aj x.ae ((bL x.ae).1/x.ae.pages)).used
 pl:Pl x.ae x.at_
 at_:(bL x.ae).2.1.at_=x.at_
 gen:(bL x.ae).2.1.gen=x.gen
 last:(bL x.ae).1/x.ae.pages=x.last
theorem yp{x:VV}:kI x=true↔eU x:=by
 rw[Ux,Bool.and_eq_true]
 constructor
 ·
  rintro⟨h1,h2⟩
  simp only[Bool.and_eq_true,decide_eq_true_eq]at h2
  obtain⟨⟨⟨g1,g2⟩,g3⟩,g4⟩:=h2
  rw[sL]at g1 g2 g3 g4
  by_cases k1:(bL x.ae).2.2≠0
  ·
   rw[if_pos k1]at g1;exact absurd g1 k1
  ·
   rw[if_neg k1]at g1 g2 g3 g4
   by_cases k2:lA x.ae=false
   ·
    rw[if_pos k2]at g1;cases g1
   ·
    rw[if_neg k2]at g2 g3 g4
    have H4:lA x.ae=true:=by simpa using k2
    rw[lA,Bool.and_eq_true,decide_eq_true_eq]at H4
    refine⟨h1,by simpa using k1,H4.1,?_,g2.symm,g3.symm,g4.symm⟩
    rw[g2];exact OE.1 H4.2
 ·
  intro h
  refine⟨h.bears,?_⟩
  have hl:lA x.ae=true:=by
   rw[lA,Bool.and_eq_true,decide_eq_true_eq]
   exact⟨h.used,by rw[h.at_];exact OE.2 h.pl⟩
  rw[sL,if_neg (fun g=>g h.roots),if_neg (by rw[hl];simp)]
  simp only[h.at_,h.gen,h.last,decide_true,Bool.and_self]
theorem aa5{L:List Int}{c d:CV}(k:Kp L c d):bL d=bL c:=by
 rw[bL,bL,(k.r0 0 (by decide)).1,(k.r0 1 (by decide)).1]
theorem aa6{L:List Int}{c d:CV}(k:Kd L c d)(h:fF c=true):fF d=true:=by
 obtain⟨h1,h2,h3,h4⟩:=ft.1 h
 exact ft.2 ⟨k.ok h1,by rw[k.bT.len];exact h2,by rw[k.bT.pages];exact h3,by rw[k.bT.size];exact h4⟩
theorem yq{c:CV}(h:fF c=true):((aj c 0).pages.length:Int)=c.pages∧((aj c 1).pages.length:Int)=c.pages:=by
 obtain⟨h1,h2,h3,h4⟩:=ft.1 h
 exact⟨(dV.1 (pL h1 (by decide) (by omega))).1,(dV.1 (pL h1 (by decide) (by omega))).1⟩
theorem OF{c:CV}(h:fF c=true):0≤(bL c).1∧(bL c).1<2*c.pages:=by
 obtain⟨h1,h2⟩:=yq h
 obtain⟨_,_,h3,_⟩:=ft.1 h
 have:=FK (l:=(aj c 0).pages++(aj c 1).pages) (by rw[List.length_append];omega)
 rw[List.length_append]at this
 rw[bL];omega
theorem eU.kp{x:VV}(h:eU x){d:CV}(k:Kp x.at_ x.ae d):eU {x with ae:=d}:=by
 have e:=aa5 k
 have ep:=k.bT.pages
 have hr:=OF h.bears
 have hp:0<x.ae.pages:=by have:=(ft.1 h.bears).2.2.1;omega
 exact⟨aa6 k.toKd h.bears,by show(bL d).2.2=0;rw[e];exact h.roots,by
  show(bL d).1%d.pages<(aj d ((bL d).1/d.pages)).used
  rw[e,ep,(k.r0 _ (Int.ediv_lt_of_lt_mul hp hr.2)).2];exact h.used,h.pl.kd k.toKd fun _ g=>g,by show(bL d).2.1.at_=_;rw[e];exact h.at_,by show(bL d).2.1.gen=_;rw[e];exact h.gen,by show(bL d).1/d.pages=_;rw[e,ep];exact h.last⟩
theorem OG{l:List Int}{n:Int}(h0:n≠0): ∀k,n∈l.take k→ ∃j,j<k∧j<l.length∧l.getD j 0=n∧l8 l j=true
 |0,h=>by simp at h
 |k+1,h=>by
  by_cases hk:n∈l.take k
  ·
   obtain⟨j,h1,h2⟩:=OG h0 k hk
   exact⟨j,by omega,h2⟩
  ·
   rw[List.take_add_one,List.mem_append]at h
   rcases h with h|h
   ·
    exact absurd h hk
   ·
    have hx:l[k]? =some n:=by simpa[Option.mem_toList]using h
    refine⟨k,by omega,(List.getElem?_eq_some_iff.1 hx).1,ob hx,?_⟩
    rw[l8,ob hx,decide_eq_true h0,Bool.true_and,Bool.not_eq_true']
    cases hc:(l.take k).contains n with
    |false=>rfl
    |true=>exact absurd (List.contains_iff_mem.1 hc) hk
theorem OH{pages:Int}{l:List Int}{i:Nat}(h:jJ pages l l.length i=0): ∀n∈l,n≠0→(n -1)/pages≠(i:Int)+2:=by
 intro n hn h0 hb
 obtain⟨j,h1,h2,h3,h4⟩:=OG h0 l.length (by rw[List.take_length];exact hn)
 rw[jJ,List.length_eq_zero_iff]at h
 have hm:j∈(List.range l.length).filter fun j=>l8 l j&&decide ((l.getD j 0 -1)/pages=(i:Int)+2):=List.mem_filter.2 ⟨List.mem_range.2 h2,by rw[h4,h3,decide_eq_true hb];rfl⟩
 rw[h]at hm;cases hm
theorem aa7{c:CV}{fl:List Int}{i:Nat}{x:ay}(h:(av c fl)[i]? =some x)(hb:x.bad=false)(hl:x.live=0):kg fl c ((i:Int)+2):=by
 have hi:=(List.getElem?_eq_some_iff.1 h).1
 rw[kL]at hi
 rw[FY hi]at h
 have e:=Option.some.inj h
 intro n hn h0
 refine OH (l:=fl) ?_ n hn h0
 rw[nw]at e
 split at e
 ·
  rw[←e]at hb;cases hb
 ·
  rw[←e]at hl
  simp only[rz]at hl
  omega
def qb(c:CV)(fl:List Int)(l:List ay):Prop:= ∀(i:Nat) (x:ay),l[i]? =some x→x.bad=false→x.live=0→kg fl c ((i:Int)+2)
theorem DI(c:CV)(fl:List Int):qb c fl (av c fl):=fun _ _ h hb hl=>aa7 h hb hl
theorem qb.set{c:CV}{fl:List Int}{l:List ay}(h:qb c fl l)(i:Nat):qb c fl (l.set i bl):=by
 intro j x hx hb hl
 rw[List.getElem?_set]at hx
 split at hx
 ·
  split at hx
  ·
   obtain rfl:=Option.some.inj hx;cases hb
  ·
   cases hx
 ·
  exact h j x hx hb hl
theorem DJ{c:CV}{fl:List Int}{l:List ay}(h:qb c fl l){R:ay→Bool}{p:Int}(hd:(eQ (bS R l) p).2=true):kg fl c ((eQ (bS R l) p).1+2)∧0≤(eQ (bS R l) p).1:=by
 obtain⟨x,hx,h1,_,h3,h4,_⟩:=nx (fun x h=>(kM h).1) hd
 have:=h _ x hx h1 (kM h3).2.1
 refine⟨?_,h4⟩
 change 0≤(eQ (bS R l) p).1 at h4
 change kg fl c ((((eQ (bS R l) p).1.toNat:Nat):Int)+2)at this
 rwa [Int.toNat_of_nonneg h4]at this
theorem OI{c:CV}{fl:List Int}(hk:aV c=true)(h2:3≤c.blocks.length)(hi:dE (av c fl)≠0)(hb: ¬(jL c fl).2=true):(eQ (bS fS (av c fl)) c.pages).2=true:=by
 have hd:=eE hk
 have dz:=kL c fl
 have hw:kJ (bS fS (av c fl)) c.pages=true:=qx.2 ⟨by rw[tU];omega,by rw[tU];omega,by omega,by omega,fun x hx=>by
  obtain⟨i,hi⟩:=List.getElem?_of_mem hx
  obtain⟨y,hy,rfl⟩:=FZ hi
  have t:=rE hk (List.mem_of_getElem? hy)
  have oO:cP=1099511627776:=rfl
  unfold gV
  split
  ·
   exact pI.2 (by simp only[bl];omega)
  ·
   rename_i hn
   have hl:y.live=0:=by
    cases hR:fS y with
    |true=>simpa[fS]using hR
    |false=>exact absurd (.inr hR) hn
   exact pI.2 ⟨by omega,by have:=t.zM;omega,t.xu,t.LG,t.LH⟩⟩
 have ny:(jL c fl).2=false:=by simpa using hb
 have F0:=rA hw (show(fu _ _ _ _).2=false from ny)
 have xv:0<((av c fl).filter fun x=> !x.bad&&decide (x.live=0)).length:=by rw[dE]at hi;omega
 obtain⟨x,hx⟩:=List.exists_mem_of_length_pos xv
 obtain⟨nz,jZ⟩:=List.mem_filter.1 hx
 simp only[Bool.and_eq_true,Bool.not_eq_true',decide_eq_true_eq]at jZ
 have rF:gV fS x=x:=by
  unfold gV
  rw[if_neg]
  rintro(g|g)
  ·
   rw[jZ.1]at g;cases g
  ·
   rw[show fS x=true by simp[fS,jZ.2]]at g;cases g
 have zN:x∈bS fS (av c fl):=by
  rw[←rF];exact List.mem_map_of_mem nz
 have zO:=F0 x zN
 have t:=rE hk nz
 have lD:lb x=true:=by
  have: ¬x.used<c.pages:=fun h=>by
   rw[lB,jZ.1,decide_eq_true h]at zO;cases zO
  simp only[lb,jZ.1,Bool.not_false,Bool.true_and,Bool.and_eq_true,decide_eq_true_eq]
  omega
 cases hq:(eQ (bS fS (av c fl)) c.pages).2 with
 |true=>rfl
 |false=>have:=rA hw hq x zN;rw[lD]at this;cases this
theorem aa8{c:CV}{fl:List Int}{aF:Bool}(hk:aV c=true)(h2:3≤c.blocks.length):Kp fl c (bm c fl aF).1∧((bm c fl aF).2.2=7→(bm c fl aF).1.off=true):=by
 rw[bm]
 by_cases h1:(ld c fl).2=true
 ·
  rw[if_pos h1];exact⟨.cZ _ _,fun h=>absurd (show(0:Int)=7 from h) (by decide)⟩
 ·
  rw[if_neg h1]
  by_cases h3:dE (av c fl)=0∨(dE (av c fl)=1∧aF=false)
  ·
   rw[if_pos h3];exact⟨.cZ _ _,fun h=>absurd (show(5:Int)=7 from h) (by decide)⟩
  ·
   rw[if_neg h3]
   by_cases h4:(jL c fl).2=true
   ·
    rw[if_pos h4];exact⟨.cZ _ _,fun h=>absurd (show(0:Int)=7 from h) (by decide)⟩
   ·
    rw[if_neg h4]
    obtain⟨d1,d2⟩:=DJ (DI c fl) (OI hk h2 (fun e=>h3 (.inl e)) h4)
    exact⟨we (by show 2≤jf c fl+2;change 0≤jf c fl at d2;omega) d1,AL⟩
theorem DK{L:List Int}{c:CV}{b:Int}{p:List UInt8}(h2:2≤b)(h:bC c b p=0):jX (bn c b p) (b*c.pages+(aj c b).used)=true∧bF (bn c b p) (b*c.pages+(aj c b).used)=p∧
  0≤b*c.pages+(aj c b).used∧jX c (b*c.pages+(aj c b).used)=false:=by
 obtain⟨h1,h3,h4,h5,e⟩:=nv h
 obtain⟨j1,j2,j3,j4,j5⟩:=iS.1 h1
 obtain⟨k1,k2,k3⟩:=gq.1 j1
 have hd:(b*c.pages+(aj c b).used)/c.pages=b:=by
  rw[Int.add_comm,Int.add_mul_ediv_right _ _ (by omega),Int.ediv_eq_zero_of_lt j2 j3,Int.zero_add]
 have hm:(b*c.pages+(aj c b).used)%c.pages=(aj c b).used:=by
  rw[Int.add_comm,Int.add_mul_emod_self_right,Int.emod_eq_of_lt j2 j3]
 have bX:=(dV.1 (n8 j1)).1
 rw[e]
 refine⟨lz.2 ?_,?_,?_,?_⟩
 ·
  show 2≤(b*c.pages+(aj c b).used)/c.pages∧(b*c.pages+(aj c b).used)/c.pages<((c.blocks.set b.toNat _).length:Int)∧(b*c.pages+(aj c b).used)%c.pages<(aj _ ((b*c.pages+(aj c b).used)/c.pages)).used
  rw[hd,hm,gG,mK j1,List.length_set]
  exact⟨h2,k3,by simp only;omega⟩
 ·
  show(aj _ ((b*c.pages+(aj c b).used)/c.pages)).pages.getD ((b*c.pages+(aj c b).used)%c.pages).toNat []=p
  rw[hd,hm,gG,mK j1]
  simp only[List.getD]
  rw[List.getElem?_set_self (by omega),mG,h5];rfl
 ·
  have:0≤b*c.pages:=Int.mul_nonneg (by omega) (by omega)
  omega
 ·
  cases hq:jX c (b*c.pages+(aj c b).used)with
  |false=>rfl
  |true=>
   obtain⟨p1,p2,p3⟩:=lz.1 hq
   rw[hd,hm]at p3;omega
structure AN(fl:List Int)(c d:CV)(n:Int)(p:List UInt8):Prop where
 pos:1≤n
 ok:jX d (n -1)=true
 pg:bF d (n -1)=p
 new: ∀m∈fl,m≠0→jX c (m -1)=true→m≠n
theorem H5: ∀(n:Nat) {c:CV} {fl:List Int} {aF:Bool} {b:List UInt8},aV c=true→3≤c.blocks.length→(cP -c.ops).toNat<n→
  Kp fl c (iA n c fl aF b).1∧((iA n c fl aF b).2.2=0→AN fl c (iA n c fl aF b).1 (iA n c fl aF b).2.1 b)∧((iA n c fl aF b).2.2=7→(iA n c fl aF b).1.off=true)
 |0,c,fl,aF,b,_,_,hn=>by omega
 |n+1,c,fl,aF,b,hk,h2,hn=>by
  obtain⟨f1,f2,f3,f4,f5⟩:=F1 (fl:=fl) (aF:=aF) hk h2
  obtain⟨k1,k2⟩:=aa8 (fl:=fl) (aF:=aF) hk h2
  rw[iA]
  by_cases h0:(bm c fl aF).2.2=0
  ·
   rw[if_pos h0]
   obtain⟨g1,g2,g3⟩:=f4 h0
   have kp:=k1.trans (DG (c:=(bm c fl aF).1) (p:=b) (L:=fl) g1)
   by_cases h1:bC (bm c fl aF).1 (bm c fl aF).2.1 b=0
   ·
    rw[if_pos h1]
    refine⟨kp,fun _=> ?_,fun h=>absurd (show(0:Int)=7 from h) (by decide)⟩
    obtain⟨q1,q2,q3,q4⟩:=DK (L:=fl) g1 h1
    rw[f2.pages]at q1 q2 q3 q4
    have e:(bm c fl aF).2.1*c.pages+(aj (bm c fl aF).1 (bm c fl aF).2.1).used+1 -1=(bm c fl aF).2.1*c.pages+(aj (bm c fl aF).1 (bm c fl aF).2.1).used:=by omega
    refine⟨by simp only;omega,by simp only;rw[e];exact q1,by simp only;rw[e];exact q2,fun m hm h0 hp he=> ?_⟩
    have:=(k1.nm m hm h0 hp).1
    simp only at he
    rw[he,e,q4]at this;cases this
   ·
    rw[if_neg h1]
    by_cases h9:bC (bm c fl aF).1 (bm c fl aF).2.1 b≠9
    ·
     rw[if_pos h9]
     exact⟨kp,fun h=>absurd h h1,AK⟩
    ·
     rw[if_neg h9]
     have ho:=rB g3 (p:=b) (.inl (by simpa using h9))
     have bR:=kK f1 (bm c fl aF).2.1 b
     have hl:=f2.trans (gU (bm c fl aF).1 (bm c fl aF).2.1 b)
     have hle:=qC bR
     obtain⟨t1,t2,t3⟩:=H5 n (fl:=fl) (aF:=aF) (b:=b) bR (by rw[hl.len];exact h2) (by omega)
     refine⟨kp.trans t1,fun h=> ?_,t3⟩
     have g:=t2 h
     exact⟨g.pos,g.ok,g.pg,fun m hm h0 hp=>g.new m hm h0 (kp.nm m hm h0 hp).1⟩
  ·
   rw[if_neg h0]
   by_cases h9:(bm c fl aF).2.2≠9
   ·
    rw[if_pos h9]
    exact⟨k1,fun h=>absurd h h0,k2⟩
   ·
    rw[if_neg h9]
    have ho:=f5 (by simpa using h9)
    have hle:=qC f1
    obtain⟨t1,t2,t3⟩:=H5 n (fl:=fl) (aF:=aF) (b:=b) f1 (by rw[f2.len];exact h2) (by omega)
    refine⟨k1.trans t1,fun h=> ?_,t3⟩
    have g:=t2 h
    exact⟨g.pos,g.ok,g.pg,fun m hm h0 hp=>g.new m hm h0 (k1.nm m hm h0 hp).1⟩
theorem OJ{c:CV}{fl:List Int}{aF:Bool}{p:PV}(hk:aV c=true)(h2:3≤c.blocks.length):
  Kp fl c (c0 c fl aF p).1∧((c0 c fl aF p).2.2=0→kH p c.size=true∧AN fl c (c0 c fl aF p).1 (c0 c fl aF p).2.1 (dg p c.size).1)∧((c0 c fl aF p).2.2=7→(c0 c fl aF p).1.off=true):=by
 rw[c0];split
 ·
  rename_i h
  refine⟨.cZ _ _,fun g=>absurd g h,fun g=> ?_⟩
  rcases xx p c.size with e|e
  ·
   exact absurd e h
  ·
   simp only at g;rw[e]at g;cases g
 ·
  rename_i h
  obtain⟨t1,t2,t3⟩:=H5 ((cP -c.ops).toNat+1) (fl:=fl) (aF:=aF) (b:=(dg p c.size).1) hk h2 (by omega)
  exact⟨t1,fun g=>⟨Ov (by simpa using h),t2 g⟩,t3⟩
open Go.aA
def rX(bs:List (List UInt8))(l:List (Int×List UInt8)):List (List UInt8):=l.foldl (fun b x=>b.set x.1.toNat x.2) bs
theorem H6{α β:Type}{f:α→β}{l:List α}{i:Nat}{x:α}:(l.set i x).map f=(l.map f).set i (f x):=by rw[List.map_set]
theorem Pl.zero{c:CV}{a:List Int}(h:Pl c a)(i:Nat):Pl c (a.set i 0):=by
 have hs: ∀(j:Nat) (y:Int),(a.set i 0)[j]? =some y→y≠0→a[j]? =some y:=fun j y hy h0=>by
  rw[List.getElem?_set]at hy
  split at hy
  ·
   split at hy
   ·
    exact absurd (Option.some.inj hy).symm h0
   ·
    cases hy
  ·
   exact hy
 exact⟨fun j y hy h0=>h.1 j y (hs j y hy h0) h0,fun j k y hj hk h0=>h.2 j k y (hs j y hj h0) (hs k y hk h0) h0⟩
theorem Pl.put{c d:CV}{a fl:List Int}{i:Nat}{n:Int}{p:PV}{pg:List UInt8}(h:Pl c a)(k:Kd fl c d)(hs: ∀m∈a,m∈fl)(g:AN fl c d n pg)(hp:cy pg=(p,0))(hk:p.kind=1)(hi:p.id=(i:Int)):Pl d (a.set i n):=by
 have hd:=h.kd k hs
 have hn: ∀m∈a,m≠n:=fun m hm e=>by
  have h0:m≠0:=by have:=g.pos;omega
  exact g.new m (hs m hm) h0 (h.place hm h0) e
 have H7: ∀(j:Nat) (y:Int),(a.set i n)[j]? =some y→(j=i∧y=n)∨(a[j]? =some y∧y≠n):=fun j y hy=>by
  rw[List.getElem?_set]at hy
  split at hy
  ·
   rename_i e
   split at hy
   ·
    exact .inl ⟨e.symm,(Option.some.inj hy).symm⟩
   ·
    cases hy
  ·
   exact .inr ⟨hy,hn y (List.mem_of_getElem? hy)⟩
 refine⟨fun j y hy h0=> ?_,fun j l y hj hl h0=> ?_⟩
 ·
  rcases H7 j y hy with⟨rfl,rfl⟩|⟨e,_⟩
  ·
   exact aa4 g.ok (by rw[g.pg];exact hp) hk hi
  ·
   exact hd.1 j y e h0
 ·
  rcases H7 j y hj with⟨e1,e2⟩|⟨e1,e2⟩<;>rcases H7 l y hl with⟨e3,e4⟩|⟨e3,e4⟩
  ·
   rw[e1,e3]
  ·
   exact absurd e2 e4
  ·
   exact absurd e4 e2
  ·
   exact h.2 j l y e1 e3 h0
theorem OK{fl:List Int}{c d:CV}{n:Int}{p:PV}{pg:List UInt8}(g:AN fl c d n pg)(hp:cy pg=(p,0)):eo d n=p.body:=by
 rw[eo,if_neg (by have:=g.pos;omega),iT,g.pg,hp,if_pos rfl]
theorem DL{v:VV}{aF:Bool}: ∀(l:List (Int×List UInt8)) {c:CV} {a:List Int},aV c=true→3≤c.blocks.length→Pl c v.at_→Pl c a→(∀x∈l,0≤x.1)→
  Kp v.at_ c (gk v aF l c a).1∧((gk v aF l c a).2.2=0→Pl (gk v aF l c a).1 (gk v aF l c a).2.1∧(gk v aF l c a).2.1.map (eo (gk v aF l c a).1)=rX (a.map (eo c)) l∧(gk v aF l c a).2.1.length=a.length)∧((gk v aF l c a).2.2=7→(gk v aF l c a).1.off=true)
 |[],c,a,_,_,_,ha,_=>⟨.cZ _ _,fun _=>⟨ha,rfl,rfl⟩,fun h=>absurd (show(0:Int)=7 from h) (by decide)⟩
 |x::r,c,a,hk,h2,hv,ha,iB=>by
  have OL: ∀y∈r,0≤y.1:=fun y hy=>iB y (List.mem_cons_of_mem _ hy)
  have JY:=iB x List.mem_cons_self
  rw[gk]
  by_cases h0:x.2.length=0
  ·
   rw[if_pos h0]
   obtain⟨t1,t2,t3⟩:=DL (v:=v) (aF:=aF) r hk h2 hv (ha.zero x.1.toNat) OL
   refine⟨t1,fun h=> ?_,t3⟩
   obtain⟨g1,g2,g3⟩:=t2 h
   refine⟨g1,?_,by rw[g3,List.length_set]⟩
   rw[g2,H6,show eo c 0=x.2 from(List.length_eq_zero_iff.1 h0).symm];rfl
  ·
   rw[if_neg h0]
   obtain⟨k1,k2,k3⟩:=OJ (fl:=v.at_++a) (aF:=aF) (p:=hY v x) hk h2
   by_cases h1:(c0 c (v.at_++a) aF (hY v x)).2.2≠0
   ·
    rw[if_pos h1]
    exact⟨k1.sub fun n hn=>List.mem_append_left _ hn,fun h=>absurd h h1,k3⟩
   ·
    rw[if_neg h1]
    obtain⟨m1,m2⟩:=k2 (by simpa using h1)
    have hb:=HW m1
    have bX:=ha.put k1.toKd (fun n hn=>List.mem_append_right _ hn) m2 hb rfl (i:=x.1.toNat) (by show x.1=_;omega)
    have xS:=hv.kd k1.toKd fun n hn=>List.mem_append_left _ hn
    obtain⟨t1,t2,t3⟩:=DL (v:=v) (aF:=aF) r (k1.ok hk) (by rw[k1.bT.len];exact h2) xS bX OL
    refine⟨(k1.sub fun n hn=>List.mem_append_left _ hn).trans t1,fun h=> ?_,t3⟩
    obtain⟨g1,g2,g3⟩:=t2 h
    refine⟨g1,?_,by rw[g3,List.length_set]⟩
    rw[g2,H6,OK m2 hb,DH ha k1.toKd fun n hn=>List.mem_append_right _ hn];rfl
theorem aa9{c:CV}{a0 a:List Int}{src to:Int}(h:(cg c a0 a src to).2=true)(hs:2≤src)(ht:0≤to→to≠src):(cg c a0 a src to).1≠src:=by
 rw[cg]at h⊢
 by_cases h1:to<0
 ·
  rw[if_pos h1]at h⊢
  by_cases h2:(eM ((av c (a0++a)).set (src -2).toNat bl) c.pages).2=true
  ·
   rw[if_pos h2]
   obtain⟨f1,f2,f3,f4⟩:=xq h2
   intro e
   simp only at e
   have e2:(eM ((av c (a0++a)).set (src -2).toNat bl) c.pages).1.toNat=(src -2).toNat:=by omega
   change lB c.pages (((av c (a0++a)).set (src -2).toNat bl).getD (eM ((av c (a0++a)).set (src -2).toNat bl) c.pages).1.toNat dO)=true at f4
   change(eM ((av c (a0++a)).set (src -2).toNat bl) c.pages).1<_ at f3
   change 0≤(eM ((av c (a0++a)).set (src -2).toNat bl) c.pages).1 at f2
   rw[List.length_set]at f3
   rw[e2]at f4
   simp only[List.getD]at f4
   rw[List.getElem?_set_self (by omega)]at f4
   cases f4
  ·
   rw[if_neg h2]at h;cases h
 ·
  rw[if_neg h1]
  exact ht (by omega)
theorem DM{v:VV}{src to:Int}(lQ:2≤src)(nK:0≤to→to≠src)(CF:1≤v.ae.pages): ∀(l:List Int) (id:Nat) {c:CV} {a:List Int},aV c=true→Pl v.ae v.at_→Kp v.at_ v.ae c→Pl c a→a.map (eo c)=v.at_.map (eo v.ae)→
  (0≤to→2≤to∧to<c.blocks.length∧(aj c to).bad=false)→v.at_.drop id=l→(∀j,id≤j→a[j]? =v.at_[j]?)→(∀j n,j<id→a[j]? =some n→n≠0→(n -1)/v.ae.pages≠src)→a.length=v.at_.length→
  Kp v.at_ v.ae (bZ v src to l id c a).c∧((bZ v src to l id c a).e=none→Pl (bZ v src to l id c a).c (bZ v src to l id c a).a∧(bZ v src to l id c a).a.map (eo (bZ v src to l id c a).c)=v.at_.map (eo v.ae)∧(bZ v src to l id c a).a.length=v.at_.length∧
   kg (bZ v src to l id c a).a v.ae src)∧((bZ v src to l id c a).e=some 7→(bZ v src to l id c a).c.off=true)∧(bZ v src to l id c a).e≠some 9
 |[],id,c,a,hk,hv,mB,ha,hb,ht,hl,iG,dF,dJ=>by
  refine⟨mB,fun _=>⟨ha,hb,dJ,fun n hn h0=> ?_⟩,fun h=>by simp[bZ]at h,by simp[bZ]⟩
  obtain⟨j,hj⟩:=List.getElem?_of_mem hn
  have hlen:v.at_.length≤id:=List.drop_eq_nil_iff.1 hl
  have:=(List.getElem?_eq_some_iff.1 hj).1
  exact dF j n (by simp only[bZ]at this;omega) hj h0
 |n::r,id,c,a,hk,hv,mB,ha,hb,ht,hl,iG,dF,dJ=>by
  have hn:v.at_[id]? =some n:=by
   have:=congrArg (fun l:List Int=>l[0]?) hl
   simpa using this
  have hr:v.at_.drop (id+1)=r:=by
   rw[←List.drop_drop,hl];rfl
  have hp:=mB.bT.pages
  rw[bZ]
  by_cases h1:n=0∨(n -1)/v.ae.pages≠src
  ·
   rw[if_pos h1]
   refine DM lQ nK CF r (id+1) hk hv mB ha hb ht hr (fun j hj=>iG j (by omega)) (fun j m hj hm h0=> ?_) dJ
   by_cases e:j=id
   ·
    rw[e,iG id (Nat.le_refl _),hn]at hm
    obtain rfl:=Option.some.inj hm
    exact h1.resolve_left h0
   ·
    exact dF j m (by omega) hm h0
  ·
   rw[if_neg h1]
   have h0:n≠0:=fun e=>h1 (.inl e)
   by_cases h2:(cg c v.at_ a src to).2=false
   ·
    rw[if_pos h2];exact⟨mB,fun h=>by simp at h,fun h=>by simp at h,by simp⟩
   ·
    rw[if_neg h2]
    have OM:(cg c v.at_ a src to).2=true:=by simpa using h2
    obtain⟨m1,m2,m3⟩:=LV OM ht
    have mne:=aa9 OM lQ nK
    generalize cg c v.at_ a src to=B at*
    by_cases h3:(dQ c ((v.gen:Int)+1) id n).2≠0
    ·
     rw[if_pos h3]
     have xz:(dQ c ((v.gen:Int)+1) id n).2=1:=(xx _ _).resolve_left h3
     exact⟨mB,fun h=>by simp at h,fun h=>absurd (xz.symm.trans (Option.some.inj h)) (by decide),fun h=>absurd (xz.symm.trans (Option.some.inj h)) (by decide)⟩
    ·
     rw[if_neg h3]
     have yr:=Ov (p:=⟨1,id,((v.gen:Int)+1).toNat,iT c n⟩) (n:=c.size) (by simpa[dQ]using h3)
     have AO:=HW yr
     have AP:=DG (L:=v.at_++a) (c:=c) (p:=(dQ c ((v.gen:Int)+1) id n).1) m1
     by_cases h4:bC c B.1 (dQ c ((v.gen:Int)+1) id n).1≠0
     ·
      rw[if_pos h4]
      refine⟨mB.trans (AP.sub fun n hn=>List.mem_append_left _ hn),fun h=>by simp at h,fun h=> ?_,fun h=> ?_⟩
      ·
       have h:=Option.some.inj h
       rw[jr]at h
       split at h
       ·
        cases h
       ·
        exact AK h
      ·
       have h:=Option.some.inj h
       rw[jr]at h
       split at h
       ·
        cases h
       ·
        rename_i h9;exact h9 h
     ·
      rw[if_neg h4]
      have rG:bC c B.1 (dQ c ((v.gen:Int)+1) id n).1=0:=by simpa using h4
      obtain⟨q1,q2,q3,q4⟩:=DK (L:=v.at_++a) m1 rG
      rw[hp]at q1 q2 q3 q4
      have e1:B.1*v.ae.pages+(aj c B.1).used+1 -1=B.1*v.ae.pages+(aj c B.1).used:=by omega
      have ye:AN (v.at_++a) c (bn c B.1 (dQ c ((v.gen:Int)+1) id n).1) (B.1*v.ae.pages+(aj c B.1).used+1) (dQ c ((v.gen:Int)+1) id n).1:=
       ⟨by omega,by rw[e1];exact q1,by rw[e1];exact q2,fun m hm _ uC he=>by rw[he,e1,q4]at uC;cases uC⟩
      have bX:=ha.put AP.toKd (fun n hn=>List.mem_append_right _ hn) ye AO rfl (i:=id) rfl
      have rU:=OK ye AO
      have fC:=iS.1 (nv rG).1
      have hq:(B.1*v.ae.pages+(aj c B.1).used+1 -1)/v.ae.pages=B.1:=by
       rw[e1,Int.add_comm,Int.add_mul_ediv_right _ _ (by omega),Int.ediv_eq_zero_of_lt fC.2.1 (by rw[←hp];exact fC.2.2.1),Int.zero_add]
      have NF:eo c n=iT c n:=by
       rw[eo]
       split
       ·
        rename_i aba
        have NM:=hv.place (List.mem_of_getElem? hn) h0
        have akp:=(lz.1 NM).1
        have:(n -1)/v.ae.pages<0:=Int.ediv_neg_of_neg_of_pos aba (by omega)
        omega
       ·
        rfl
      refine DM lQ nK CF r (id+1) (AP.ok hk) hv (mB.trans (AP.sub fun n hn=>List.mem_append_left _ hn)) bX ?_ (fun h=> ?_) hr (fun j hj=> ?_) (fun j m hj hm mg=> ?_) (by rw[List.length_set,dJ])
      ·
       rw[H6,rU,DH ha AP.toKd fun n hn=>List.mem_append_right _ hn,hb]
       refine tL ?_
       have e3:=congrArg (fun l:List (List UInt8)=>l[id]?) hb
       simp only[List.getElem?_map]at e3
       rw[iG id (Nat.le_refl _),hn]at e3
       rw[List.getElem?_map,hn]
       simp only[Option.map_some]at e3⊢
       rw[←e3,NF]
      ·
       have:=ht h
       rw[(gU c _ _).len,F9 rG]
       exact this
      ·
       rw[List.getElem?_set_ne (by omega)];exact iG j (by omega)
      ·
       rw[List.getElem?_set]at hm
       split at hm
       ·
        split at hm
        ·
         obtain rfl:=Option.some.inj hm
         rw[hq];exact mne
        ·
         cases hm
       ·
        exact dF j m (by omega) hm mg
end Go.Kb
