/- Part of a proof. -/
import Derived.Test.YtaipiecplldinaaGreatA5
import Derived.Test.YtaipiecplldinaaGreatA1
import Derived.Test.YtaipiecplldinaaGreatA3
import Derived.Test.YtaipiecplldinaaGreatA2
import Derived.Test.YtaipiecplldinaaGreatA4
set_option maxRecDepth 20000
set_option linter.unusedSimpArgs false
set_option linter.unusedVariables false
namespace Go.Proofs.YtaipiecplldinaaGreat
open Go.aL Go.Kb
instance aeJ{w0:World}{L:List aj}{s:Sv}{ss:List Rt}[h:cl w0 L aw 19 s ss]:bU Tryz.prog 39 w0 L [s.val] (.bool (dD ss)) True:=⟨fun _ w hw=>Uv w s ss (h.h w hw)⟩
instance aeK{w0:World}{L:List aj}{s:Sv}{ss:List Rt}[h:cl w0 L aw 19 s ss]:bU Tryz.prog 102 w0 L [s.val] (.bool (dD ss)) True:=⟨fun _ w hw=>Uw w s ss (h.h w hw)⟩
instance aeL{w0:World}{L:List aj}{s t:Sv}{ss ts:List Rt}[h:cl w0 L aw 19 s ss][h2:cl w0 L aw 19 t ts]:bU Tryz.prog 36 w0 L [s.val,t.val] (.bool (decide (ss=ts))) (ss.length<9223372036854775807):=⟨fun hp w hw=>Ux w s t ss ts (h.h w hw) (h2.h w hw) hp⟩
instance aeM{w0:World}{L:List aj}{s:Sv}{ss:List UInt8}[h:cl w0 L aJ 1 s ss]:bU Tryz.prog 99 w0 L [s.val] (.int .u64 (de ss:Nat)) (ss.length≤7):=⟨fun hp w hw=>Ur w s ss (h.h w hw) hp⟩
instance aeN{w0:World}{L:List aj}{n many:Nat}:bW Tryz.prog 156 w0 L [.int .u64 (n:Nat), .int .i64 (many:Nat)] Sv (fun s=>s.val) (fun s=>own aJ 1 s (be n many)::L) (fun _=>True) (n<2^64∧1≤many∧many≤8):=⟨fun hp w hw=>(Uq w n many hp.1 hp.2).mono fun e w' ⟨s,h1,h2,h3,h4⟩=>⟨s,h1,trivial,hw.call h4⟩⟩
open Go.aL Go.Kb
instance:bF bY 18:=⟨mW,fun p=>(inferInstance:fv (bY p) 18).one⟩
theorem Uy(w:World)(b2 b3:Nat)(s:Sv)(ss:List Rt)(q:cF)(j:Nat)(h2:bM pI 1 (hp w) ⟨false,b2,0,1,1,none⟩ [s])(h3:bM bY 18 (hp w) ⟨false,b3,0,1,1,none⟩ [q])(hs:bM aw 19 (hp w) s ss)(hj:j<ss.length):Calls Tryz.prog 118 #[.int .i64 (j:Nat), .pointer (some ⟨b2,0,none⟩), .pointer (some ⟨b3,0,none⟩)] w fun e w'=>e= .returned (.bool (behind ss q j))∧Mem w [] w':=by
 have g2:Gv w ⟨false,b2,0,1,1,none⟩ pI 1 [s]:=⟨h2⟩
 have g3:Gv w ⟨false,b3,0,1,1,none⟩ bY 18 [q]:=⟨h3⟩
 have gs:Gv w s aw 19 ss:=⟨hs⟩
 refine aW (args:=[_,_,_]) Tryz.func118 rfl Tryz.ntmps118 rfl ?_
 change Cw _ _ _ _ _ [(0, .int .i64 (j:Nat)),(1, .pointer (some ⟨b2,0,none⟩)),(2, .pointer (some ⟨b3,0,none⟩))] []
 refine Gc ?_
 refine Gs ?_
 refine Gc ?_
 refine eF (by kernel_rfl) (by kernel_rfl) ?_
 refine aT (bn (s:=⟨false,b2,0,1,1,none⟩) (enc:=pI) (c:=1) (xs:=[s]) (a:=s) (j:=0) (v:=s.val) rfl 0 rfl rfl (by decide)) ?_
 refine Gq ?_
 obtain⟨r,hr⟩:=get_some (xs:=ss) (i:=j) (by omega)
 refine aT (aX rfl rfl j rfl (by omega)) ?_
 refine aT (aA rfl rfl) ?_
 refine aT (BU (j:=0) rfl j hr rfl (by decide)) ?_
 refine aT (fH (s:=⟨false,b3,0,1,1,none⟩) (enc:=bY) (c:=18) (xs:=[q]) (a:=q) rfl 0 rfl rfl) ?_
 refine oz (bX rfl trivial) ?_
 iterate 2 refine Gq ?_
 refine Gc ?_
 refine an (.inl rfl) (aK rfl (al rfl)) (fun w1 hw=> ?_)
 exact⟨congrArg (fun b=>Ending.returned (Value.bool b)) ((by simp only[behind,hr])),ah.mem hw⟩
theorem Uz(w:World)(n:Nat)(p:Nat→Bool)(f:FuncId)[hf:aM Tryz.prog f](jf:Array Value)(hF: ∀w',Mem w [] w'→ ∀j:Nat,j<n→Calls Tryz.prog f ([Value.int .i64 (j:Nat)]++jf.toList).toArray w' fun e mR=>e= .returned (.bool (p j))∧Mem w' [] mR)(hn:n≤1000000000):Calls Tryz.prog 117 #[.int .i64 (n:Nat), .func (.func f) #[] jf] w fun e w'=>e= .returned (.int .i64 (bs p n:Nat))∧Mem w [] w':=by
 refine aW (args:=[_,_]) Tryz.func117 rfl Tryz.ntmps117 rfl ?_
 change Cw _ _ _ _ _ [(0, .int .i64 (n:Nat)),(1, .func (.func f) #[] jf)] []
 refine Gc ?_
 refine Gs ?_
 refine Gc ?_
 iterate 3 refine Gs ?_
 refine Gc ?_
 refine bK (X:=Nat×Nat) (fun zz=>[(5, .int .i64 (zz.1:Nat)),(6, .int .i64 (zz.2:Nat)),(1, .func (.func f) #[] jf)]) (fun zz=>[]) (fun zz=>zz.1≤zz.2∧zz.2≤n∧jM p (n+1) zz.1 zz.2=bs p n) (fun zz=>zz.2 -zz.1) (0,n) ⟨Nat.zero_le _,Nat.le_refl _,rfl⟩ (Sub.cons rfl (Sub.cons rfl (Sub.cons rfl (Sub.nil _)))) (fun w hw=>ah.mem hw) ?_
 rintro⟨i,j⟩ ⟨bb,aH,bu⟩
 dsimp only
 simp only at bb aH bu
 refine Gc ?_
 iterate 3 refine Gs ?_
 refine Gc ?_
 refine aq rfl (fun h0=> ?_) (fun h0=> ?_)
 ·
  replace h0:=bz h0
  refine Gc ?_
  iterate 3 refine Gs ?_
  refine ae (mw (n:=i+j) rfl (by simp only[nb];omega)) ?_
  refine ae (tm (p:=i+j) rfl rfl (by simp only[nb];omega) (by omega)) ?_
  refine ae (mw (n:=(i+j)/2^1) rfl (by simp only[nb];omega)) ?_
  refine Gs ?_
  refine Gc ?_
  iterate 2 refine Gs ?_
  refine dQ (Ay rfl rfl (fun w1 oC=>hF w1 oC ((i+j)/2) (by omega))) ?_
  refine Gs ?_
  refine Gc ?_
  refine aq rfl (fun h1=> ?_) (fun h1=> ?_)
  ·
   replace h1:=bz h1
   refine Gi ?_
   iterate 3 refine Gs ?_
   iterate 2 refine Gi ?_
   exact bh (x:=(i,j)) ((i+j)/2+1,j) ⟨by first|omega|(simp only[];omega),aH,by rw[←bu,IX (show i<j by first|omega|(simp only[];omega)) (by first|omega|(simp only[];omega)),if_neg (by rw[h1];simp)]⟩ (by simp only;omega) (Sub.cons rfl (Sub.cons rfl (Sub.cons rfl (Sub.nil _)))) (fun w hw=>ah.mem hw)
  ·
   replace h1:=bz h1
   refine Gi ?_
   iterate 2 refine Gs ?_
   iterate 2 refine Gi ?_
   exact bh (x:=(i,j)) (i,(i+j)/2) ⟨by first|omega|(simp only[];omega),by first|omega|(simp only[];omega),by rw[←bu,IX (show i<j by first|omega|(simp only[];omega)) (by first|omega|(simp only[];omega)),if_pos h1]⟩ (by simp only;omega) (Sub.cons rfl (Sub.cons rfl (Sub.cons rfl (Sub.nil _)))) (fun w hw=>ah.mem hw)
 ·
  replace h0:=bz h0
  refine Gc ?_
  iterate 2 refine Gs ?_
  refine Gc ?_
  refine an (.inl rfl) (aK rfl (al rfl)) (fun w1 hw=> ?_)
  exact⟨congrArg (fun b=>Ending.returned (Value.int .i64 b)) ((by rw[←bu,P3 (by omega) (by omega)])),ah.mem hw⟩
theorem UA(w:World)(t:Sv)(ts:List Rt)(p:cF)(ht:bM aw 19 (hp w) t ts)(ba:ts.length≤1000000):Calls Tryz.prog 80 #[t.val, .agg (bY p)] w fun e w'=>e= .returned (.tuple #[.int .i64 ((dR ts p:Nat):Int), .bool (lp ts p)])∧Mem w [] w':=by
 have xQ:Gv w t aw 19 ts:=⟨ht⟩
 refine aW (args:=[_,_]) Tryz.func80 rfl Tryz.ntmps80 rfl ?_
 change Cw _ _ _ _ _ [(0,t.val),(1, .agg (bY p))] []
 refine Gc ?_
 refine BE rfl fun b2=> ?_
 refine bL rfl fun b3=> ?_
 iterate 2 refine Gs ?_
 refine Gc ?_
 iterate 2 refine Gs ?_
 refine ae (DZ (vs:=[.pointer (some ⟨b2,0,none⟩), .pointer (some ⟨b3,0,none⟩)]) rfl) ?_
 refine dQ (yT (v:= .int .i64 (dR ts p:Nat)) rfl (fun w1 oC=>Uz (f:=118) w1 ts.length (behind ts p) #[.pointer (some ⟨b2,0,none⟩), .pointer (some ⟨b3,0,none⟩)] (fun w2 fu j hj=>Uy w2 b2 b3 t ts p j ((y6 (b:=b2) (cs:=t.val.cells) (enc:=pI) (xs:=[t]) (n:=1) (by rw[Sv.hQ];rfl) rfl (by decide) w1 oC).mono fu.below) ((y6 (b:=b3) (cs:=bY p) (enc:=bY) (c:=18) (xs:=[p]) (n:=1) (by simp[aQ]) rfl (by decide) w1 oC).mono fu.below) (((inferInstance:Hd w _ t aw 19 ts).h w1 oC).mono fu.below) hj) (by omega))) ?_
 refine Gs ?_
 refine Gc ?_
 refine eF (by kernel_rfl) (by kernel_rfl) ?_
 iterate 6 refine Gq ?_
 refine c5 rfl rfl rfl (fun hg=>(Ry.yl (bl rfl))) ?_
 refine Gh ?_
 refine c5 rfl rfl rfl (fun hg=>(Ry.yl (aX (av hg rfl) (av hg rfl) (dR ts p) rfl (by simp only[Z0,Z1,Z2,Z3,Z4,Z5,Z6,Z7,Z8,Z9]at hg;omega)))) ?_
 refine c5 rfl rfl rfl (fun hg=>(Ry.yl (aA (av hg rfl) rfl))) ?_
 refine c5 rfl rfl rfl (fun hg=>(Ry.yl (BU (j:=0) (av hg rfl) (dR ts p) (iU (xs:=ts) (i:=(dR ts p)) (d:=fI) (by simp only[Z0,Z1,Z2,Z3,Z4,Z5,Z6,Z7,Z8,Z9]at hg;omega)) rfl (by decide)))) ?_
 refine c5 rfl rfl rfl (fun hg=>(Ry.yl (dW rfl))) ?_
 refine c5 rfl rfl rfl (fun hg=>(Ry.yl (yU (av hg rfl) (av hg rfl)))) ?_
 iterate 3 refine Gq ?_
 refine Gc ?_
 refine an (.inl rfl) (aZ rfl (al rfl) (al rfl)) (fun w1 hw=> ?_)
 exact⟨(by rw[P6]),ah.mem hw⟩
instance aeO{w0:World}{L:List aj}{t:Sv}{ts:List Rt}{p:cF}[ht:cl w0 L aw 19 t ts]:bU Tryz.prog 80 w0 L [t.val, .agg (bY p)] (.tuple #[.int .i64 ((dR ts p:Nat):Int), .bool (lp ts p)]) (ts.length≤1000000):=⟨fun hp w hw=>UA w t ts p (ht.h w hw) hp⟩
theorem UB(w:World)(t:Sv)(ts:List Rt)(k:Key)(bits:Int)(ht:bM aw 19 (hp w) t ts):Calls Tryz.prog 37 #[t.val, .agg (cc k), .int .i64 bits] w fun e w'=>e= .returned (.tuple #[.agg (aw (iK ts k bits)), .int .i64 (jN ts k bits)])∧Mem w [] w':=by
 have xQ:Gv w t aw 19 ts:=⟨ht⟩
 refine aW (args:=[_,_,_]) Tryz.func37 rfl Tryz.ntmps37 rfl ?_
 change Cw _ _ _ _ _ [(0,t.val),(1, .agg (cc k)),(2, .int .i64 bits)] []
 refine Gc ?_
 refine bL rfl fun b4=> ?_
 refine bx fun b6=> ?_
 refine Gs ?_
 refine Gc ?_
 iterate 4 refine Gs ?_
 iterate 2 refine Gg ?_
 refine bD rfl rfl rfl (fun hg=>(Ry.yl (dW rfl))) ?_
 refine bD rfl rfl rfl (fun hg=>(Ry.yl (mV (wI (av hg rfl) (wI (av hg rfl) (wI (av hg rfl) FF)))))) ?_
 refine bD rfl rfl rfl (fun hg=>bX (cg (av hg rfl) dO) trivial) ?_
 refine bD rfl rfl rfl (fun hg=>(Ry.yl (fU (av hg rfl)))) ?_
 refine Gs ?_
 refine Gc ?_
 refine aq rfl (fun h0=> ?_) (fun h0=> ?_)
 ·
  replace h0:=bz h0
  have hk:qh ts k bits=false:=by rw[qh];rcases h0 with h|h;rw[h];rfl;rw[h];simp
  refine Gc ?_
  refine ae (mV rfl) ?_
  iterate 2 refine Gs ?_
  refine Gc ?_
  refine an (.inl rfl) (aZ rfl (bG rfl) (al rfl)) (fun w1 hw=> ?_)
  exact⟨(by rw[iK,if_neg (by rw[hk];simp),jN,if_neg (by rw[hk];simp)]),ah.mem hw⟩
 ·
  replace h0:=bz h0
  have hr:dD ts=true:=by simpa using h0.1
  have hk:qh ts k bits=true:=by rw[qh,hr];simpa using h0.2
  have hlen:=zF hr
  have hb:bits=32∨bits=128:=((kX _).1 (by simpa using h0.2:cN ⟨bits,bits,k⟩=true)).1
  refine Gc ?_
  iterate 2 refine Gs ?_
  refine Gc ?_
  refine bK (X:=Int) (fun zz=>[(8, .int .i64 zz),(0,t.val),(2, .int .i64 bits),(4, .pointer (some ⟨b4,0,none⟩)),(6, .pointer (some ⟨b6,0,none⟩))]) (fun zz=>[ar b6 (aw fI) 68,ar b4 (cc k) 56]) (fun zz=> -1≤zz∧zz≤bits∧(zz<0→lq ts k bits bits.toNat=none)∧(∀m:Nat,zz=m→lq ts k bits bits.toNat=lq ts k bits m)) (fun zz=>(zz+1).toNat) bits ⟨by first|omega|(simp only[];omega),Int.le_refl _,fun h=>by first|omega|(simp only[];omega),fun m h=>by rw[h];rfl⟩ (Sub.cons rfl (Sub.cons rfl (Sub.cons rfl (Sub.cons rfl (Sub.cons rfl (Sub.nil _)))))) (fun w hw=>ah.mem hw) ?_
  rintro n ⟨qm,uv,sK,EP⟩
  refine Gc ?_
  iterate 2 refine Gs ?_
  refine Gc ?_
  refine aq rfl (fun h1=> ?_) (fun h1=> ?_)
  ·
   replace h1:=bz h1
   obtain⟨m,rfl⟩: ∃m:Nat,n=(m:Int):=⟨n.toNat,by omega⟩
   refine Gc ?_
   iterate 5 refine Gs ?_
   refine ae (mV rfl) ?_
   refine bx fun b9=> ?_
   refine Gs ?_
   refine Gc ?_
   iterate 2 refine Gs ?_
   refine dQ (bX rfl (by omega)) ?_
   refine Gs ?_
   refine ae (aU (v:= .int .i64 ((dR ts (⟨bits,((m:Nat):Int),(dj k ((m:Nat):Int))⟩:cF):Nat):Int)) rfl rfl) ?_
   refine ae (aU (v:= .bool (lp ts (⟨bits,((m:Nat):Int),(dj k ((m:Nat):Int))⟩:cF))) rfl rfl) ?_
   iterate 2 refine Gs ?_
   refine Gc ?_
   refine Gs ?_
   refine Gc ?_
   refine aq rfl (fun h2=> ?_) (fun h2=> ?_)
   ·
    replace h2:=bz h2
    have yo: ∃r,ts[dR ts ⟨bits,m,dj k m⟩]? =some r∧pd ts k bits m=some r:=by obtain⟨r,_,h8,_⟩:=An h2;exact⟨r,h8,by rw[pd,if_pos h2,h8]⟩
    obtain⟨r,eP,sP⟩:=yo
    have yp:lq ts k bits bits.toNat=some r:=by rw[EP m rfl];cases m with|zero=>exact sP|succ m=>rw[lq,sP]
    refine Gc ?_
    iterate 2 refine Gs ?_
    refine ae (aX rfl rfl (dR ts ⟨bits,m,dj k m⟩) (by omega) (List.getElem?_eq_some_iff.1 eP).1) ?_
    refine ae (fH rfl (dR ts ⟨bits,m,dj k m⟩) eP rfl) ?_
    iterate 2 refine Gs ?_
    refine Gc ?_
    refine an (.inl rfl) (aZ rfl (bG rfl) (al rfl)) (fun w1 hw=> ?_)
    exact⟨(by rw[iK,if_pos hk,jN,if_pos hk,yp];rfl),ah.mem hw⟩
   ·
    replace h2:=bz h2
    have yo:pd ts k bits m=none:=by rw[pd,if_neg (by rw[h2];simp)]
    refine Gc ?_
    iterate 3 refine Gs ?_
    refine Gi ?_
    exact bh (x:=((m:Nat):Int)) ((m:Int) -1) ⟨by first|omega|(simp only[];omega),by first|omega|(simp only[];omega),fun h=>by obtain rfl:m=0:=(by first|omega|(simp only[];omega));rw[EP 0 rfl];exact yo,fun m2 h=>by obtain rfl:m=m2+1:=(by first|omega|(simp only[];omega));rw[EP _ rfl,lq,yo]⟩ (by first|omega|(simp only[];omega)) (Sub.cons rfl (Sub.cons rfl (Sub.cons rfl (Sub.cons rfl (Sub.cons rfl (Sub.nil _)))))) (fun w hw=>ah.mem hw)
  ·
   replace h1:=bz h1
   have AO:lq ts k bits bits.toNat=none:=sK (by omega)
   refine Gc ?_
   refine ae (mV rfl) ?_
   iterate 2 refine Gs ?_
   refine Gc ?_
   refine an (.inl rfl) (aZ rfl (bG rfl) (al rfl)) (fun w1 hw=> ?_)
   exact⟨(by rw[iK,if_pos hk,jN,if_pos hk,AO];rfl),ah.mem hw⟩
instance aeP{w0:World}{L:List aj}{t:Sv}{ts:List Rt}{k:Key}{bits:Int}[ht:cl w0 L aw 19 t ts]:bU Tryz.prog 37 w0 L [t.val, .agg (cc k), .int .i64 bits] (.tuple #[.agg (aw (iK ts k bits)), .int .i64 (jN ts k bits)]) (True):=⟨fun hp w hw=>UB w t ts k bits (ht.h w hw)⟩
open Go.aL Go.Kb
theorem UC(w:World)(s:Sv)(ss:List Rt)(hs:bM aw 19 (hp w) s ss)(ba:ss.length≤1000000):Calls Tryz.prog 73 #[s.val] w fun e w'=> ∃zz:Sv,e= .returned (zz.val)∧(True)∧Mem w [own aw 19 zz ss] w':=by
 have uj:Gv w s aw 19 ss:=⟨hs⟩
 refine aW (args:=[_]) Tryz.func73 rfl Tryz.ntmps73 rfl ?_
 change Cw _ _ _ _ _ [(0,s.val)] []
 refine Gc ?_
 refine Gs ?_
 refine Gc ?_
 refine Gs ?_
 refine ae (qC Tryz.underlying52 rfl) ?_
 refine Gc ?_
 refine aq rfl (fun h0=> ?_) (fun h0=> ?_)
 ·
  replace h0:=bz h0
  have e0:ss=[]:=List.length_eq_zero_iff.1 (by have:=hs.ok.nil h0;have:=hs.len;omega)
  refine Gc ?_
  refine Gs ?_
  refine Gc ?_
  refine an (.inl rfl) (aK rfl (al rfl)) (fun w1 hw=> ?_)
  exact⟨Sv.none,rfl,trivial,by rw[e0];exact(ah.mem hw:Mem w [] _).cz aw 19⟩
 ·
  replace h0:=bz h0
  refine Gc ?_
  refine qD aw fun b5=> ?_
  refine Gs ?_
  refine jG (s:=⟨false,b5,0,0,0,none⟩) (ys:=ss) rfl rfl (by decide) (fun w hw=>gX (s:=s) Tryz.underlying52 (by decide) ((inferInstance:Hd _ _ s aw 19 ss).h w hw)) (by simp only[List.length_append,List.length_cons,List.length_nil];omega) (by simp only[List.length_append,List.length_cons,List.length_nil];omega) fun s7 uk sD=> ?_
  refine Gs ?_
  refine Gc ?_
  refine an (.inl rfl) (aK rfl (al rfl)) (fun w1 hw=> ?_)
  exact⟨s7,rfl,trivial,by simpa using hw⟩
instance aeQ{w0:World}{L:List aj}{s:Sv}{ss:List Rt}[hs:cl w0 L aw 19 s ss]:bW Tryz.prog 73 w0 L [s.val] (Sv) (fun zz=>zz.val) (fun zz=>own aw 19 zz ss::L) (fun zz=>True) (ss.length≤1000000):=⟨fun hp w hw=>(UC w s ss (hs.h w hw) hp).mono fun e w' ⟨x,h1,h2,h3⟩=>⟨x,h1,h2,hw.call h3⟩⟩
open Go.aL Go.Kb
instance:G3 Tryz.prog 141 52 4:=⟨⟨Tryz.f141,Tryz.func141,by kernel_rfl,by kernel_rfl,by kernel_rfl,by kernel_rfl⟩⟩
theorem UD(w0 w:World)(L:List aj)(s:Sv)(ss:List Rt)(n:Nat)(m:Nat)(hw:Mem w0 (own aw 19 s ss::L) w)(ba:n≤m∧m≤ss.length):Calls Tryz.prog 111 #[s.val, .int .i64 (n:Nat), .int .i64 (m:Nat)] w fun e w'=> ∃zz:Sv,e= .returned (zz.val)∧(True)∧Mem w0 (own aw 19 zz (ss.take n++ss.drop m)::L) w':=by
 obtain⟨kQ,kr⟩:=ba
 refine jH (args:=[_,_,_]) Tryz.func111 rfl Tryz.ntmps111 rfl hw ?_
 change Cw _ _ _ _ _ [(0,s.val),(1, .int .i64 (n:Nat)),(2, .int .i64 (m:Nat))] (own aw 19 s ss::L)
 refine Gc ?_
 refine Gs ?_
 refine Gc ?_
 iterate 5 refine Gs ?_
 refine ae (G1 (l:=n) (h:=m) (m:=ss.length) rfl rfl rfl rfl rfl rfl rfl (by omega) (by omega) (by omega)) ?_
 refine Gc ?_
 iterate 3 refine Gs ?_
 refine Gc ?_
 refine aq rfl (fun h0=> ?_) (fun h0=> ?_)
 ·
  replace h0:=bz h0
  obtain rfl:n=m:=by omega
  refine Gc ?_
  iterate 2 refine Gs ?_
  refine Gc ?_
  refine an (.inl rfl) (aK rfl (al rfl)) (fun w1 hw=> ?_)
  exact⟨s,rfl,trivial,by rw[List.take_append_drop];exact hw⟩
 ·
  replace h0:=bz h0
  iterate 3 refine Gi ?_
  refine Mh s fun aeR=> ?_
  have bB:n<m:=by omega
  refine GX (s:=s) inferInstance (by decide) (by omega) fun pre mid T gh tt lU fG ct nL=> ?_
  have hle:=ct.le
  have fJ:=ct.bd
  have Kg:(aQ aw (ss.drop m)).length=(ss.length -m)*19:=by rw[gl,List.length_drop]
  have UE:(aQ aw (ss.take n)).length=n*19:=by rw[gl,List.length_take];congr 1;omega
  have nn:(aQ aw ss).length=ss.length*19:=gl ss
  have UF:aQ aw ss=aQ aw (ss.take m)++aQ aw (ss.drop m):=by rw[←tK,List.take_append_drop]
  have hlm:(aQ aw (ss.take m)).length=m*19:=by rw[gl,List.length_take];congr 1;omega
  obtain⟨X,hX⟩: ∃X,aQ aw ss=aQ aw (ss.take n)++X:=⟨aQ aw (ss.drop n),by rw[←tK,List.take_append_drop]⟩
  have hXl:n*19+X.length=ss.length*19:=by rw[←nn,hX,List.length_append,UE]
  obtain⟨r1,eP⟩: ∃r:Sv,r=(⟨false,s.b,s.o,n+(ss.length -m),s.cap,none⟩:Sv):=⟨_,rfl⟩
  refine Gi ?_
  refine Gs ?_
  refine ae (oD rfl ct nL) ?_
  refine Gs ?_
  iterate 3 refine Gi ?_
  refine tp 6 [] (by kernel_rfl) (by kernel_rfl) ?_
  simp only[List.take_succ_cons,List.take_zero]
  iterate 2 refine Gq ?_
  have Jz:Rg 0 n ss.length:=⟨by omega⟩
  refine aT (rF (h:=n) rfl rfl rfl ct (by omega)) ?_
  iterate 2 refine Gq ?_
  have SS:Rg m ss.length ss.length:=⟨by omega⟩
  refine aT (pG (l:=m) (n:=ss.length) rfl rfl rfl ct nL (by omega)) ?_
  refine rC ?_
  refine rD ?_
  simp only[List.drop_succ_cons,List.drop_zero]
  refine Ns (D:=s.sub 19 0 n) (S:=s.sub 19 m ss.length) (b:=s.b) (o:=s.o+n*19) (n:=ss.length -m) (vs:=aQ aw (ss.drop m)) (R:=r1) (cs':=(pre++(aQ aw (ss.take n)++(aQ aw (ss.drop m)++(X++mid).drop (aQ aw (ss.drop m)).length))).toArray) rfl rfl lU fG rfl (by rw[Sv.xh];rfl) lU fG rfl rfl Kg (by show n -0+_≤s.cap -0;omega) (fun w hw j v hj=>by
   have iR:=(List.getElem?_eq_some_iff.1 hj).1
   rw[Kg]at iR
   rw[Sv.rT (by omega)]
   show w.cell? ⟨s.b,_,none⟩=_
   rw[hw.cell (inferInstance:Has _ s.b _ _ _).h,List.getElem?_toArray,List.getElem?_append_right (by omega),List.getElem?_append_left (by omega),UF,List.getElem?_append_right (by omega),←hj]
   congr 1;omega) (rG _) (by simp only[List.size_toArray,List.length_append];omega) (by rw[hX,List.append_assoc,←List.append_assoc pre,vd (by rw[List.length_append];omega),List.append_assoc]) (by rw[eP,Sv.xh];rfl) ?_
  refine Gs ?_
  refine Gc ?_
  iterate 2 refine Gs ?_
  refine ae (oD (n:=n+(ss.length -m)) (s:=r1) rfl (by rw[eP];exact⟨(fun h=>by cases h),by simp only;omega,by simp only;omega,fun _=>rfl⟩) (by rw[eP])) ?_
  refine Gs ?_
  refine ae (y4 (s:=r1) (l:=n+(ss.length -m)) (h:=ss.length) rfl rfl rfl rfl rfl (by rw[eP];exact⟨(fun h=>by cases h),by simp only;omega,by simp only;omega,fun _=>rfl⟩) (by omega) (by rw[eP];simp only;omega)) ?_
  refine Nu (D:=r1.sub 19 (n+(ss.length -m)) ss.length) (b:=s.b) (o:=s.o+(n+(ss.length -m))*19) (n:=m -n) (z:= .agg (aw fI)) rfl (by rw[eP];rfl) (by rw[eP];rfl) (by rw[eP];rfl) (by rw[eP,Sv.rT (by show _<s.cap;omega)]) (by show ss.length -(n+(ss.length -m))=_;omega) (by omega) (show(aw fI).all (·.oneCell')=true from(inferInstance:bF aw 19).one fI) (by simp only[List.size_toArray,List.length_append,List.length_drop];omega) fun Z hZ=> ?_
  refine Gc ?_
  iterate 2 refine Gs ?_
  refine Gc ?_
  refine an (.inl rfl) (aK rfl (al rfl)) (fun w1 hw=> ?_)
  refine⟨r1,rfl,trivial,?_⟩
  rw[show(pre++(aQ aw (ss.take n)++(aQ aw (ss.drop m)++(X++mid).drop (aQ aw (ss.drop m)).length)))=(pre++(aQ aw (ss.take n)++aQ aw (ss.drop m)))++(X++mid).drop (aQ aw (ss.drop m)).length from by simp only[List.append_assoc],vd (A:=pre++(aQ aw (ss.take n)++aQ aw (ss.drop m))) (by simp only[List.length_append];omega),←tK,List.append_assoc pre]at hw
  have fu:=Cz (enc:=aw) (i:=0) (xs:=ss.take n++ss.drop m) (pre:=pre) hw rfl r1 (by rw[eP];exact⟨(fun h=>by cases h),by simp only;omega,by simp only;omega,fun _=>rfl⟩) (by rw[eP]) (by rw[eP]) (by rw[eP]) (by rw[eP];exact gh.symm) (by rw[eP];simp only[List.length_append,List.length_take,List.length_drop];omega) (by rw[eP];simp only[List.length_append,List.length_take,List.length_drop];omega)
  exact fu
instance aeS{w0:World}{L R:List aj}{i:Nat}{s:Sv}{ss:List Rt}{n:Nat}{m:Nat}[q:eT L s aw 19 ss i][d:c8 L i R]:bW Tryz.prog 111 w0 L [s.val, .int .i64 (n:Nat), .int .i64 (m:Nat)] (Sv) (fun zz=>zz.val) (fun zz=>own aw 19 zz (ss.take n++ss.drop m)::R) (fun zz=>True) (n≤m∧m≤ss.length):=⟨fun hp w hw=>UD w0 w R s ss n m (DY q.h d.h hw) hp⟩
theorem UG(w0 w:World)(L:List aj)(s:Sv)(ss:List Rt)(v:Sv)(r:Rt)(n:Nat)(hw:Mem w0 (own aw 19 s ss::own aw 19 v [r]::L) w)(ba:n≤ss.length∧ss.length≤1000000):Calls Tryz.prog 112 #[s.val, .int .i64 (n:Nat),v.val] w fun e w'=> ∃zz:Sv,e= .returned (zz.val)∧(True)∧Mem w0 (own aw 19 zz (ss.take n++r::ss.drop n)::L) w':=by
 obtain⟨kQ,kr⟩:=ba
 refine jH (args:=[_,_,_]) Tryz.func112 rfl Tryz.ntmps112 rfl hw ?_
 change Cw _ _ _ _ _ [(0,s.val),(1, .int .i64 (n:Nat)),(2,v.val)] (own aw 19 s ss::own aw 19 v [r]::L)
 refine Gc ?_
 refine Gs ?_
 refine Gc ?_
 iterate 2 refine Gs ?_
 have UH:Rg n ss.length ss.length:=⟨by omega⟩
 refine ae (y8 rfl rfl n rfl UH.h.1) ?_
 refine Gc ?_
 refine Gs ?_
 refine ae (Ry.to (v':= .int .i64 (1:Nat)) (iT rfl) rfl) ?_
 refine Gs ?_
 refine Gc ?_
 iterate 2 refine Gs ?_
 refine Gc ?_
 refine aq rfl (fun h0=> ?_) (fun h0=> ?_)
 ·
  replace h0:=bz h0
  exfalso;omega
 ·
  replace h0:=bz h0
  refine Gc ?_
  iterate 3 refine Gs ?_
  refine Gc ?_
  iterate 3 refine Gs ?_
  refine Gc ?_
  refine aq rfl (fun h1=> ?_) (fun h1=> ?_)
  ·
   replace h1:=bz h1
   refine Gc ?_
   iterate 2 refine Gs ?_
   refine jG (s:=s) (ys:=[r]) rfl rfl (by decide) (fun w hw=>gX (s:=v) Tryz.underlying52 (by decide) ((inferInstance:Hd _ _ v aw 19 [r]).h w hw)) (by simp only[List.length_cons,List.length_nil];omega) (by simp only[List.length_cons,List.length_nil];omega) fun UI aeT aeU=> ?_
   refine Gs ?_
   refine Gc ?_
   refine an (.inl rfl) (aK rfl (al rfl)) (fun w1 hw=> ?_)
   exact⟨UI,rfl,trivial,by rw[List.take_of_length_le (by omega),List.drop_of_length_le (by omega)];exact ah.mem hw⟩
  ·
   replace h1:=bz h1
   iterate 4 refine Gi ?_
   have bB:n<ss.length:=by omega
   refine zx (s:=v) (enc:=aw) inferInstance (by simp) fun Kh uN aeV v7=> ?_
   have Ki:v.len=1:=v7
   refine GX (s:=s) inferInstance (by decide) (by omega) fun pre mid T gh tt lU fG ct nL=> ?_
   have hle:=ct.le
   have fJ:=ct.bd
   obtain⟨x,hx⟩:=get_some (xs:=ss) (i:=n) (by omega)
   have hA:(aQ aw (ss.take n)).length=n*19:=by rw[gl,List.length_take];congr 1;omega
   have hB:(aQ aw (ss.drop n)).length=(ss.length -n)*19:=by rw[gl,List.length_drop]
   have qo:(aQ aw [r]).length=19:=by rw[gl];rfl
   have yq:(aQ aw [x]).length=19:=by rw[gl];rfl
   have A1:aQ aw ss=(aQ aw (ss.take n))++(aQ aw (ss.drop n)):=by rw[←tK,List.take_append_drop]
   have Kj:(aQ aw (ss.drop n))=(aQ aw [x])++(aQ aw (ss.drop (n+1))):=by rw[←tK,List.drop_eq_getElem_cons bB,show ss[n]=x from(List.getElem?_eq_some_iff.1 hx).2];rfl
   have nn:(aQ aw ss).length=ss.length*19:=gl ss
   have AL:aQ aw (ss.take n++r::ss.drop n)=(aQ aw (ss.take n))++((aQ aw [r])++(aQ aw (ss.drop n))):=by rw[tK,←tK [r]];rfl
   have A2:(ss.take n++r::ss.drop n).length=ss.length+1:=by simp only[List.length_append,List.length_take,List.length_cons,List.length_drop];omega
   have fV: ∀(w1:World) L',Mem w0 (ar s.b (pre++(aQ aw ss++mid)).toArray T::L') w1→ ∀j u,(aQ aw ss)[j]? =some u→w1.cell? ⟨s.b,s.o+j,none⟩=some u:=fun w1 L' oC j u hj=>No oC gh hj
   refine Gi ?_
   iterate 4 refine Gs ?_
   refine ae (Nv (n:=s.cap) rfl lU rfl) ?_
   refine Gs ?_
   refine Gc ?_
   refine aq rfl (fun h2=> ?_) (fun h2=> ?_)
   ·
    replace h2:=bz h2
    refine Gc ?_
    iterate 2 refine Gs ?_
    refine ae (rF (h:=n) rfl rfl rfl ct (by omega)) ?_
    iterate 5 refine Gs ?_
    refine Nt (D:=s.sub 19 0 n) (k:=ss.length+1 -n) (p:=n) (m:=ss.length+1) (olds:=(aQ aw (ss.take n))) rfl (by omega) rfl rfl (by omega) (by omega) lU fG (by decide) Tryz.underlying3 hA (fun w hw j u hj=>by
     have iR:=(List.getElem?_eq_some_iff.1 hj).1
     rw[Sv.xh]
     exact fV w _ hw j u (by rw[A1,List.getElem?_append_left iR];exact hj)) (by show s.cap -0<n -0+_;omega) (by show(n -0+_)*_≤_;omega) (by show n -0+_≤_;omega) fun sX sY yr aeW aeX=> ?_
    refine Gs ?_
    refine Gc ?_
    iterate 2 refine Gs ?_
    refine ae (pG (s:=(⟨false,sX,0,ss.length+1,sY,none⟩:Sv)) (l:=n) (n:=ss.length+1) rfl rfl rfl ⟨(fun h=>by cases h),by simp only;omega,by simp only;omega,fun _=>rfl⟩ rfl (by omega)) ?_
    refine Gs ?_
    refine zy (D:=(⟨false,sX,0,ss.length+1,sY,none⟩:Sv).sub 19 n (ss.length+1)) (S:=v) (b:=sX) (o:=n*19) (n:=1) (vs:=(aQ aw [r])) (cs':=((aQ aw (ss.take n))++((aQ aw [r])++yr.drop 19)).toArray) rfl rfl rfl rfl rfl (by rw[Sv.rT (by show n<sY;omega)];exact Nat.zero_add _) Kh uN (by rw[Ki];exact Cy (b:=ss.length+1 -n) (by omega)) (by rw[qo]) (fun w hw j u hj=>GY (enc:=aw) (xs:=[r]) (by decide) inferInstance hw hj) (rG _) (by simp only[List.size_toArray,List.length_append];omega) (by rw[vd (A:=(aQ aw (ss.take n))) hA.symm,qo]) ?_
    iterate 3 refine Gi ?_
    refine tp 8 [] (by kernel_rfl) (by kernel_rfl) ?_
    simp only[List.take_succ_cons,List.take_zero]
    iterate 4 refine Gq ?_
    refine aT (pG (s:=(⟨false,sX,0,ss.length+1,sY,none⟩:Sv)) (l:=n+1) (n:=ss.length+1) rfl rfl rfl ⟨(fun h=>by cases h),by simp only;omega,by simp only;omega,fun _=>rfl⟩ rfl (by omega)) ?_
    iterate 2 refine Gq ?_
    refine aT (pG (l:=n) (n:=ss.length) rfl rfl rfl ct nL (by omega)) ?_
    refine rC ?_
    refine rD ?_
    simp only[List.drop_succ_cons,List.drop_zero]
    refine zy (D:=(⟨false,sX,0,ss.length+1,sY,none⟩:Sv).sub 19 (n+1) (ss.length+1)) (S:=s.sub 19 n ss.length) (b:=sX) (o:=(n+1)*19) (n:=ss.length -n) (vs:=(aQ aw (ss.drop n))) (cs':=(((aQ aw (ss.take n))++(aQ aw [r]))++((aQ aw (ss.drop n))++(yr.drop 19).drop (aQ aw (ss.drop n)).length)).toArray) rfl rfl rfl rfl rfl (by rw[Sv.rT (by show n+1<sY;omega)];exact Nat.zero_add _) lU fG (Cy (a:=ss.length -n) (b:=ss.length+1 -(n+1)) (by omega)) hB (fun w hw j u hj=>by
     rw[Sv.rT (by omega),Nat.add_assoc]
     exact fV w _ (hw.sub (by first|exact List.Sublist.refl _|exact List.sublist_cons_self _ _)) (n*19+j) u (by rw[A1,List.getElem?_append_right (by omega),hA,Nat.add_sub_cancel_left];exact hj)) (rG _) (by simp only[List.size_toArray,List.length_append,List.length_drop];omega) (by rw[←List.append_assoc,vd (A:=(aQ aw (ss.take n))++(aQ aw [r])) (by rw[List.length_append,hA,qo];omega)]) ?_
    refine Gc ?_
    iterate 2 refine Gs ?_
    refine Gc ?_
    refine an (.inl rfl) (aK rfl (al rfl)) (fun w1 hw=> ?_)
    refine⟨(⟨false,sX,0,ss.length+1,sY,none⟩:Sv),rfl,trivial,?_⟩
    rw[show((aQ aw (ss.take n))++(aQ aw [r]))++((aQ aw (ss.drop n))++(yr.drop 19).drop (aQ aw (ss.drop n)).length)=[]++(aQ aw (ss.take n++r::ss.drop n)++(yr.drop 19).drop (aQ aw (ss.drop n)).length)from by rw[AL];simp only[List.append_assoc,List.nil_append]]at hw
    have fu:=Cz (enc:=aw) (i:=0) (xs:=ss.take n++r::ss.drop n) (pre:=[]) (mid:=(yr.drop 19).drop (aQ aw (ss.drop n)).length) hw rfl (⟨false,sX,0,ss.length+1,sY,none⟩:Sv) ⟨(fun h=>by cases h),by simp only;omega,by simp only;omega,fun _=>rfl⟩ rfl rfl rfl rfl (by rw[A2]) (by rw[A2];simp only[List.length_nil,List.length_drop];omega)
    rw[List.set_cons_zero]at fu
    exact ah.mem fu
   ·
    replace h2:=bz h2
    obtain⟨s1,fQ⟩: ∃z:Sv,z=⟨false,s.b,s.o,ss.length+1,s.cap,none⟩:=⟨_,rfl⟩
    refine Gc ?_
    iterate 4 refine Gs ?_
    refine ae (Ry.to (v':=s1.val) (rF (h:=ss.length+1) rfl rfl rfl ct (by omega)) (by rw[fQ,Sv.sub_eq lU fG])) ?_
    refine Gs ?_
    refine Gc ?_
    iterate 5 refine Gs ?_
    refine ae (pG (s:=s1) (l:=n+1) (n:=ss.length+1) rfl rfl rfl (by rw[fQ];exact⟨(fun h=>by cases h),by simp only;omega,by simp only;omega,fun _=>rfl⟩) (by rw[fQ]) (by omega)) ?_
    refine ae (Nw (V:=v) (D:=s1.sub 19 (n+1) (ss.length+1)) (b:=s.b) (xs:=[r]) rfl rfl (by decide) (by simp) (by rw[fQ];rfl) (by rw[fQ];rfl) (by rw[fQ];rfl) (by simp only[List.size_toArray,List.length_append];omega)) ?_
    refine Gs ?_
    refine Gc ?_
    refine aq rfl (fun h3=> ?_) (fun h3=> ?_)
    ·
     replace h3:=bz h3
     refine Gi ?_
     refine tp 8 [] (by kernel_rfl) (by kernel_rfl) ?_
     simp only[List.take_succ_cons,List.take_zero]
     iterate 4 refine Gq ?_
     refine aT (pG (s:=s1) (l:=n+1) (n:=ss.length+1) rfl rfl rfl (by rw[fQ];exact⟨(fun h=>by cases h),by simp only;omega,by simp only;omega,fun _=>rfl⟩) (by rw[fQ]) (by omega)) ?_
     iterate 2 refine Gq ?_
     refine aT (pG (s:=s1) (l:=n) (n:=ss.length+1) rfl rfl rfl (by rw[fQ];exact⟨(fun h=>by cases h),by simp only;omega,by simp only;omega,fun _=>rfl⟩) (by rw[fQ]) (by omega)) ?_
     refine rC ?_
     refine rD ?_
     simp only[List.drop_succ_cons,List.drop_zero]
     refine zy (D:=s1.sub 19 (n+1) (ss.length+1)) (S:=s1.sub 19 n (ss.length+1)) (b:=s.b) (o:=s.o+(n+1)*19) (n:=ss.length -n) (vs:=(aQ aw (ss.drop n))) (cs':=(pre++((aQ aw (ss.take n))++((aQ aw [x])++((aQ aw (ss.drop n))++((aQ aw (ss.drop (n+1)))++mid).drop (aQ aw (ss.drop n)).length)))).toArray) rfl rfl (by rw[fQ];rfl) (by rw[fQ];rfl) (by rw[fQ];rfl) (by rw[fQ,Sv.rT (by show _<s.cap;omega)]) (by rw[fQ];rfl) (by rw[fQ];rfl) (by rw[show ss.length -n=ss.length+1 -(n+1)from by omega];exact Nm (a:=ss.length+1 -n) (by omega)) hB (fun w hw j u hj=>by
      rw[fQ,Sv.rT (by show _<s.cap;omega),Nat.add_assoc]
      exact fV w _ hw (n*19+j) u (by rw[A1,List.getElem?_append_right (by omega),hA,Nat.add_sub_cancel_left];exact hj)) (rG _) (by simp only[List.size_toArray,List.length_append];omega) (by
      rw[A1,show pre++(((aQ aw (ss.take n))++(aQ aw (ss.drop n)))++mid)=(pre++((aQ aw (ss.take n))++(aQ aw [x])))++((aQ aw (ss.drop (n+1)))++mid)from by rw[Kj];simp only[List.append_assoc],vd (A:=pre++((aQ aw (ss.take n))++(aQ aw [x]))) (by simp only[List.length_append];omega)];simp only[List.append_assoc]) ?_
     refine Gc ?_
     iterate 2 refine Gs ?_
     refine ae (pG (s:=s1) (l:=n) (n:=ss.length+1) rfl rfl rfl (by rw[fQ];exact⟨(fun h=>by cases h),by simp only;omega,by simp only;omega,fun _=>rfl⟩) (by rw[fQ]) (by omega)) ?_
     refine Gs ?_
     refine zy (D:=s1.sub 19 n (ss.length+1)) (S:=v) (b:=s.b) (o:=s.o+n*19) (n:=1) (vs:=(aQ aw [r])) (cs':=(pre++((aQ aw (ss.take n))++((aQ aw [r])++((aQ aw (ss.drop n))++((aQ aw (ss.drop (n+1)))++mid).drop (aQ aw (ss.drop n)).length)))).toArray) rfl rfl (by rw[fQ];rfl) (by rw[fQ];rfl) (by rw[fQ];rfl) (by rw[fQ,Sv.rT (by show _<s.cap;omega)]) Kh uN (by rw[Ki];exact Cy (b:=ss.length+1 -n) (by omega)) (by rw[qo]) (fun w hw j u hj=>GY (enc:=aw) (xs:=[r]) (by decide) inferInstance hw hj) (rG _) (by simp only[List.size_toArray,List.length_append];omega) (by
      rw[←List.append_assoc pre,vd (A:=pre++(aQ aw (ss.take n))) (by rw[List.length_append];omega),qo,←yq,List.drop_left,List.append_assoc]) ?_
     refine Gc ?_
     iterate 2 refine Gs ?_
     refine Gc ?_
     refine an (.inl rfl) (aK rfl (al rfl)) (fun w1 hw=> ?_)
     refine⟨s1,rfl,trivial,?_⟩
     rw[show pre++((aQ aw (ss.take n))++((aQ aw [r])++((aQ aw (ss.drop n))++((aQ aw (ss.drop (n+1)))++mid).drop (aQ aw (ss.drop n)).length)))=pre++(aQ aw (ss.take n++r::ss.drop n)++((aQ aw (ss.drop (n+1)))++mid).drop (aQ aw (ss.drop n)).length)from by rw[AL];simp only[List.append_assoc]]at hw
     have fu:=Cz (enc:=aw) (i:=0) (xs:=ss.take n++r::ss.drop n) (pre:=pre) (mid:=((aQ aw (ss.drop (n+1)))++mid).drop (aQ aw (ss.drop n)).length) hw rfl s1 (by rw[fQ];exact⟨(fun h=>by cases h),by simp only;omega,by simp only;omega,fun _=>rfl⟩) (by rw[fQ]) (by rw[fQ]) (by rw[fQ]) (by rw[fQ];exact gh.symm) (by rw[fQ,A2]) (by rw[fQ,A2];have:=congrArg List.length Kj;simp only[List.length_append,List.length_drop]at this⊢;omega)
     rw[List.set_cons_zero]at fu
     exact ah.mem fu
    ·
     exfalso;simp at h3
instance aeY{w0:World}{L R1 L2:List aj}{i j:Nat}{s:Sv}{ss:List Rt}{v:Sv}{r:Rt}{n:Nat}[h:eT L s aw 19 ss i][d1:c8 L i R1][q:eT R1 v aw 19 [r] j][d2:c8 R1 j L2]:bW Tryz.prog 112 w0 L [s.val, .int .i64 (n:Nat),v.val] (Sv) (fun zz=>zz.val) (fun zz=>own aw 19 zz (ss.take n++r::ss.drop n)::L2) (fun zz=>True) (n≤ss.length∧ss.length≤1000000):=⟨fun hp w hw=>UG w0 w L2 s ss v r n (qZ h.h d1.h q.h d2.h hw) hp⟩
open Go.aL Go.Kb
instance:bF gf 20:=⟨I5,fun x=>by
 have h:(aw x.r).all (·.oneCell')=true:=bF.one x.r
 rw[gf,Array.all_append,h];simp[Value.oneCell']⟩
instance (x:Ch):fv (gf x) 20:=⟨I5 x,bF.one x⟩
instance (x:Ch):mU (gf x) 0 19 (aw x.r):=⟨hU _,fun j hj=>by rw[Nat.zero_add];exact I6 x j hj⟩
instance (x:Ch):mU (gf x) 0 18 (bY x.r.p):=⟨mW _,fun j hj=>by rw[Nat.zero_add];exact(I6 x j (by omega)).trans (hY x.r j hj)⟩
instance (x:Ch):cj (gf x) 19 (.bool x.gone):=⟨Qi x⟩
instance (r:Rt):tj Tryz.prog 91 [(0, .agg (aw r))] (.agg (gf ⟨r,false⟩)):=⟨fun w=>by kernel_rfl⟩
instance:eC Tryz.prog 91 (.agg (gf I4)):=⟨by unfold gf aw bY I4 fI;rw[ug];kernel_rfl⟩
theorem UJ{cs vs:Array Value}(h:cs.size=vs.size):cI cs 0 vs=vs:=by
 unfold cI;apply Array.ext';simp[←h]
theorem UK(w0 w:World)(L:List aj)(t:Sv)(ts:List Rt)(g:Ch)(hw:Mem w0 (own aw 19 t ts::L) w)(ba:ts.length≤1000):Calls Tryz.prog 74 #[t.val, .agg (gf g)] w fun e w'=> ∃zz:Sv,e= .returned (.tuple #[zz.val, .int .i64 (iv ts g)])∧(True)∧Mem w0 (own aw 19 zz (lr ts g)::L) w':=by
 have hpn:=IY ts g.r.p
 refine jH (args:=[_,_]) Tryz.func74 rfl Tryz.ntmps74 rfl hw ?_
 change Cw _ _ _ _ _ [(0,t.val),(1, .agg (gf g))] (own aw 19 t ts::L)
 refine Gc ?_
 refine bL rfl fun b3=> ?_
 iterate 2 refine Gs ?_
 refine Gc ?_
 iterate 2 refine Gs ?_
 refine ae (eE rfl) ?_
 iterate 2 refine Gs ?_
 refine Gc ?_
 refine aq rfl (fun h0=> ?_) (fun h0=> ?_)
 ·
  replace h0:=bz h0
  have hm:cN g.r.p=false:=h0
  have he:iv ts g=1:=by rw[iv,if_neg (by rw[hm];simp)]
  refine Gc ?_
  iterate 3 refine Gs ?_
  refine Gc ?_
  refine an (.inl rfl) (aZ rfl (al rfl) (al rfl)) (fun w1 hw=> ?_)
  exact⟨t,by rw[he],trivial,by rw[lr,if_neg (by rw[he];decide)];exact ah.mem hw⟩
 ·
  replace h0:=bz h0
  have hm:cN g.r.p=true:=h0
  refine Gc ?_
  iterate 3 refine Gs ?_
  refine ae (eE rfl) ?_
  refine dQ (bX rfl (by omega)) ?_
  refine Gs ?_
  refine ae (aU (v:= .int .i64 ((dR ts g.r.p:Nat):Int)) rfl rfl) ?_
  refine ae (aU (v:= .bool (lp ts g.r.p)) rfl rfl) ?_
  iterate 2 refine Gs ?_
  refine Gc ?_
  iterate 3 refine Gs ?_
  refine Gg ?_
  refine dG rfl rfl rfl (fun hg=>(Ry.yl (fU (av hg rfl)))) ?_
  iterate 2 refine Gs ?_
  refine Gc ?_
  refine aq rfl (fun h1=> ?_) (fun h1=> ?_)
  ·
   replace h1:=bz h1
   have he:iv ts g=6:=by rw[iv,if_pos hm,if_neg (by rw[h1.2];simp),if_pos h1.1]
   refine Gc ?_
   iterate 3 refine Gs ?_
   refine Gc ?_
   refine an (.inl rfl) (aZ rfl (al rfl) (al rfl)) (fun w1 hw=> ?_)
   exact⟨t,by rw[he],trivial,by rw[lr,if_neg (by rw[he];decide)];exact ah.mem hw⟩
  ·
   replace h1:=bz h1
   refine Gc ?_
   iterate 3 refine Gs ?_
   refine Gc ?_
   refine aq rfl (fun h2=> ?_) (fun h2=> ?_)
   ·
    replace h2:=bz h2
    have hb:lp ts g.r.p=true:=by rcases h1 with h|h;(rw[h2]at h;cases h);exact h
    have he:iv ts g=0:=by rw[iv,if_pos hm,if_pos hb]
    have hl:lr ts g=ts.take (dR ts g.r.p)++ts.drop ((dR ts g.r.p)+1):=by rw[lr,if_pos he,if_pos h2]
    obtain⟨r0,_,qo,_⟩:=An hb
    have gh:=(List.getElem?_eq_some_iff.1 qo).1
    refine Gc ?_
    iterate 3 refine Gs ?_
    refine ae (Ry.to (v':= .int .i64 (((dR ts g.r.p)+1:Nat):Int)) (gk rfl rfl (by omega)) rfl) ?_
    refine bp rfl ⟨by omega,by omega⟩ fun kf Kd=> ?_
    iterate 2 refine Gs ?_
    refine Gc ?_
    refine an (.inl rfl) (aZ rfl (al rfl) (al rfl)) (fun w1 hw=> ?_)
    exact⟨kf,by rw[he],trivial,by rw[hl];exact ah.mem hw⟩
   ·
    replace h2:=bz h2
    refine Gc ?_
    iterate 2 refine Gs ?_
    refine Gc ?_
    refine aq rfl (fun h3=> ?_) (fun h3=> ?_)
    ·
     replace h3:=bz h3
     have hb:lp ts g.r.p=true:=h3
     have he:iv ts g=0:=by rw[iv,if_pos hm,if_pos hb]
     have hl:lr ts g=ts.set (dR ts g.r.p) g.r:=by rw[lr,if_pos he,if_neg (by rw[h2];simp),if_pos hb]
     obtain⟨r0,_,qo,_⟩:=An hb
     have gh:=(List.getElem?_eq_some_iff.1 qo).1
     refine Gc ?_
     iterate 3 refine Gs ?_
     refine ae (eE rfl) ?_
     refine ae (aX rfl rfl (dR ts g.r.p) rfl gh) ?_
     refine jU (n:=19) (k:=(dR ts g.r.p)) (j:=0) (a:=r0) (a':=g.r) (xs:=ts) (enc:=aw) (c:=19) (v:= .agg (aw g.r)) (by kernel_rfl) rfl rfl rfl qo (bF.one g.r) (hU g.r) (by decide) (UJ (by rw[hU];exact(hU g.r).symm)) ?_
     refine Gc ?_
     iterate 3 refine Gs ?_
     refine Gc ?_
     refine an (.inl rfl) (aZ rfl (al rfl) (al rfl)) (fun w1 hw=> ?_)
     exact⟨t,by rw[he],trivial,by rw[hl];exact ah.mem hw⟩
    ·
     replace h3:=bz h3
     refine Gc ?_
     iterate 4 refine Gs ?_
     refine Gc ?_
     refine aq rfl (fun h4=> ?_) (fun h4=> ?_)
     ·
      replace h4:=bz h4
      have he:iv ts g=5:=by rw[iv,if_pos hm,if_neg (by rw[h3];simp),if_neg (by rw[h2];simp),if_pos (by omega)]
      refine Gc ?_
      iterate 3 refine Gs ?_
      refine Gc ?_
      refine an (.inl rfl) (aZ rfl (al rfl) (al rfl)) (fun w1 hw=> ?_)
      exact⟨t,by rw[he],trivial,by rw[lr,if_neg (by rw[he];decide)];exact ah.mem hw⟩
     ·
      replace h4:=bz h4
      have he:iv ts g=0:=by rw[iv,if_pos hm,if_neg (by rw[h3];simp),if_neg (by rw[h2];simp),if_neg (by omega)]
      have hl:lr ts g=ts.take (dR ts g.r.p)++g.r::ts.drop (dR ts g.r.p):=by rw[lr,if_pos he,if_neg (by rw[h2];simp),if_neg (by rw[h3];simp)]
      refine Gc ?_
      iterate 3 refine Gs ?_
      refine ae (eE rfl) ?_
      refine mz (enc:=aw) (vals:=[_]) [g.r] rfl rfl rfl (by decide) (by decide) fun b55=> ?_
      refine bp rfl ⟨by omega,by omega⟩ fun nx wj=> ?_
      iterate 2 refine Gs ?_
      refine Gc ?_
      refine an (.inl rfl) (aZ rfl (al rfl) (al rfl)) (fun w1 hw=> ?_)
      exact⟨nx,by rw[he],trivial,by rw[hl];exact ah.mem hw⟩
instance aeZ{w0:World}{L R:List aj}{i:Nat}{t:Sv}{ts:List Rt}{g:Ch}[q:eT L t aw 19 ts i][d:c8 L i R]:bW Tryz.prog 74 w0 L [t.val, .agg (gf g)] (Sv) (fun zz=> .tuple #[zz.val, .int .i64 (iv ts g)]) (fun zz=>own aw 19 zz (lr ts g)::R) (fun zz=>True) (ts.length≤1000):=⟨fun hp w hw=>UK w0 w R t ts g (DY q.h d.h hw) hp⟩
theorem UL(w:World)(t:Sv)(ts:List Rt)(l:Sv)(ls:List Ch)(ht:bM aw 19 (hp w) t ts)(hl:bM gf 20 (hp w) l ls)(ba:ts.length≤1000000):Calls Tryz.prog 34 #[t.val,l.val] w fun e w'=> ∃zz:Sv,e= .returned (.tuple #[zz.val, .int .i64 (kc ts ls)])∧(True)∧Mem w [own aw 19 zz (eO ts ls)] w':=by
 have xQ:Gv w t aw 19 ts:=⟨ht⟩
 have nt:Gv w l gf 20 ls:=⟨hl⟩
 have ER:=hl.bd
 refine aW (args:=[_,_]) Tryz.func34 rfl Tryz.ntmps34 rfl ?_
 change Cw _ _ _ _ _ [(0,t.val),(1,l.val)] []
 refine Gc ?_
 iterate 2 refine Gs ?_
 refine Gc ?_
 iterate 3 refine Gs ?_
 refine Gc ?_
 refine aq rfl (fun h0=> ?_) (fun h0=> ?_)
 ·
  replace h0:=bz h0
  have he:kc ts ls=1:=if_neg (by rw[h0];simp)
  have ha:eO ts ls=ts:=by rw[eO,if_neg (by rw[he];decide)]
  refine Gc ?_
  refine Gs ?_
  refine bp rfl (by omega) fun kS wc=> ?_
  iterate 2 refine Gs ?_
  refine Gc ?_
  refine an (.inl rfl) (aZ rfl (al rfl) (al rfl)) (fun w1 hw=> ?_)
  exact⟨kS,by rw[he],trivial,by rw[ha];exact ah.mem hw⟩
 ·
  replace h0:=bz h0
  have hr:dD ts=true:=h0
  have hlen:=zF hr
  refine Gc ?_
  refine Gs ?_
  refine bp rfl (by omega) fun aD jB=> ?_
  refine Gs ?_
  refine Gc ?_
  iterate 3 refine Gs ?_
  refine Gc ?_
  refine bK (X:=Nat×Sv×List Rt) (fun zz=>[(19, .int .i64 (zz.1:Nat)),(6,zz.2.1.val),(0,t.val),(17,l.val),(18, .int .i64 (ls.length:Nat))]) (fun zz=>[own aw 19 zz.2.1 zz.2.2]) (fun zz=>zz.1≤ls.length∧qi ts ls=qi zz.2.2 (ls.drop zz.1)∧zz.2.2.length≤256) (fun zz=>ls.length -zz.1) (0,aD,ts) ⟨Nat.zero_le _,rfl,hlen⟩ (Sub.cons rfl (Sub.cons rfl (Sub.cons rfl (Sub.cons rfl (Sub.cons rfl (Sub.nil _)))))) (fun w hw=>ah.mem hw) ?_
  rintro⟨i,s1,q⟩ ⟨bb,aH,bu⟩
  dsimp only
  simp only at bb aH bu
  refine Gc ?_
  refine Gs ?_
  refine Gc ?_
  refine aq rfl (fun h1=> ?_) (fun h1=> ?_)
  ·
   replace h1:=bz h1
   iterate 6 refine Gi ?_
   obtain⟨g,hg⟩:=get_some (xs:=ls) (i:=i) (by omega)
   refine ae (aX rfl rfl i rfl (by omega)) ?_
   refine ae (fH rfl i hg rfl) ?_
   refine bx fun b8=> ?_
   refine Gs ?_
   refine Gc ?_
   refine Gs ?_
   refine Gc ?_
   iterate 2 refine Gs ?_
   refine bp rfl (by omega) fun jC po=> ?_
   refine Gs ?_
   refine ae (aU (v:=jC.val) rfl rfl) ?_
   refine ae (aU (v:= .int .i64 (iv q g)) rfl rfl) ?_
   iterate 2 refine Gs ?_
   refine Gc ?_
   iterate 2 refine Gs ?_
   refine Gc ?_
   refine aq rfl (fun h2=> ?_) (fun h2=> ?_)
   ·
    replace h2:=bz h2
    have Kk: ¬iv q g=0:=h2
    have ef:qi ts ls=(q,iv q g):=by rw[aH,I7 hg,if_neg Kk]
    have he:kc ts ls=iv q g:=by rw[kc,if_pos hr,ef]
    have ha:eO ts ls=ts:=by rw[eO,if_neg (by rw[he];exact Kk)]
    refine Gc ?_
    refine Gs ?_
    refine bp rfl (by omega) fun aC rf=> ?_
    iterate 3 refine Gs ?_
    refine Gc ?_
    refine an (.inl rfl) (aZ rfl (al rfl) (al rfl)) (fun w1 hw=> ?_)
    exact⟨aC,by rw[he],trivial,by rw[ha];exact ah.mem hw⟩
   ·
    replace h2:=bz h2
    refine Gc ?_
    iterate 2 refine Gs ?_
    refine Gi ?_
    exact bh (x:=(i,s1,q)) (i+1,jC,lr q g) ⟨by first|omega|(simp only[];omega),by rw[aH,I7 hg,if_pos h2],Qj bu g⟩ (by simp only;omega) (Sub.cons rfl (Sub.cons rfl (Sub.cons rfl (Sub.cons rfl (Sub.cons rfl (Sub.nil _)))))) (fun w hw=>ah.mem hw)
  ·
   replace h1:=bz h1
   obtain rfl:i=ls.length:=by omega
   have ef:qi ts ls=(q,0):=by rw[aH,List.drop_length];rfl
   have he:kc ts ls=0:=by rw[kc,if_pos hr,ef]
   have ha:eO ts ls=q:=by rw[eO,if_pos he,ef]
   refine Gc ?_
   iterate 3 refine Gs ?_
   refine Gc ?_
   refine an (.inl rfl) (aZ rfl (al rfl) (al rfl)) (fun w1 hw=> ?_)
   exact⟨s1,by rw[he],trivial,by rw[ha];exact ah.mem hw⟩
instance ae0{w0:World}{L:List aj}{t:Sv}{ts:List Rt}{l:Sv}{ls:List Ch}[ht:cl w0 L aw 19 t ts][hl:cl w0 L gf 20 l ls]:bW Tryz.prog 34 w0 L [t.val,l.val] (Sv) (fun zz=> .tuple #[zz.val, .int .i64 (kc ts ls)]) (fun zz=>own aw 19 zz (eO ts ls)::L) (fun zz=>True) (ts.length≤1000000):=⟨fun hp w hw=>(UL w t ts l ls (ht.h w hw) (hl.h w hw) hp).mono fun e w' ⟨x,h1,h2,h3⟩=>⟨x,h1,h2,hw.call h3⟩⟩
open Go.aL Go.Kb
instance (i:Int)(s:Sv):tj Tryz.prog 102 [(0, .int .i64 i),(1,s.val)] (.agg #[.int .i64 i,s.val]):=⟨fun w=>by
 obtain⟨n,b,o,l,c⟩:=s
 cases n<;>kernel_rfl⟩
theorem UM(w:World)(s:Sl (Sl UInt8))(i:Nat)(hs:Deep.bk (hp w) s):Calls Tryz.prog 114 #[s.sv.val, .int .i64 (i:Nat)] w fun e w'=>e= .returned (((oI s i).sv).val)∧Mem w [] w':=by
 have uj:bT w s:=⟨hs⟩
 refine aW (args:=[_,_]) Tryz.func114 rfl Tryz.ntmps114 rfl ?_
 change Cw _ _ _ _ _ [(0,s.sv.val),(1, .int .i64 (i:Nat))] []
 refine ay ?_
 refine aI ?_
 refine ae (aP rfl) ?_
 refine aG ?_
 refine ax ?_
 refine ay ?_
 refine ay ?_
 refine aI ?_
 refine ae (au rfl) ?_
 refine ae (au rfl) ?_
 refine ae (iT rfl) ?_
 refine ae (bt rfl rfl rfl) ?_
 refine aG ?_
 refine ax ?_
 refine aq rfl (fun h0=> ?_) (fun h0=> ?_)
 ·
  try simp only[Z0,Z1,Z2,Z3,Z4,Z5,Z6,Z7,Z8,Z9]at h0
  refine ay ?_
  refine aI ?_
  refine ae (aP rfl) ?_
  refine aG ?_
  refine ax ?_
  refine cD ?_
  refine cw ?_
  refine an (.inl rfl) (aK rfl (al rfl)) (fun w1 hw=> ?_)
  exact⟨by rw[zb (by omega)];rfl,ah.mem hw⟩
 ·
  try simp only[Z0,Z1,Z2,Z3,Z4,Z5,Z6,Z7,Z8,Z9]at h0
  refine cS ?_
  refine ax ?_
  refine ay ?_
  refine aI ?_
  refine ae (au rfl) ?_
  refine ae (au rfl) ?_
  obtain⟨u,hu⟩:=get_some (xs:=s.xs) (i:=i) (by omega)
  refine ae (aX rfl rfl i rfl (by omega)) ?_
  refine ae (bn (j:=0) rfl i hu rfl (by decide)) ?_
  have ae1:Mb u _:=⟨List.mem_of_getElem? hu⟩
  refine ae (aP rfl) ?_
  refine aG ?_
  refine ax ?_
  refine cD ?_
  refine an (.inl rfl) (aK rfl (al rfl)) (fun w1 hw=> ?_)
  exact⟨by rw[za hu],ah.mem hw⟩
instance ae2{w0:World}{L:List aj}{s:Sl (Sl UInt8)}{i:Nat}[hs:aS w0 L s]:bU Tryz.prog 114 w0 L [s.sv.val, .int .i64 (i:Nat)] (((oI s i).sv).val) (True):=⟨fun hp w hw=>UM w s i (hs.h w hw)⟩
theorem UN(w:World)(x:Sv)(xs:List UInt8)(y:Sv)(ys:List UInt8)(hx:bM aJ 1 (hp w) x xs)(hy:bM aJ 1 (hp w) y ys):Calls Tryz.prog 115 #[x.val,y.val] w fun e w'=>e= .returned (.bool (decide (xs=ys)))∧Mem w [] w':=by
 have sI:Gv w x aJ 1 xs:=⟨hx⟩
 have Ec:Gv w y aJ 1 ys:=⟨hy⟩
 refine aW (args:=[_,_]) Tryz.func115 rfl Tryz.ntmps115 rfl ?_
 change Cw _ _ _ _ _ [(0,x.val),(1,y.val)] []
 refine ay ?_
 refine aI ?_
 refine ae (aP rfl) ?_
 refine aG ?_
 refine ax ?_
 refine ay ?_
 refine aI ?_
 refine ae (au rfl) ?_
 refine ae (u2 Tryz.underlying38 Tryz.underlying5 Tryz.underlying9 rfl) ?_
 refine ae (au rfl) ?_
 refine ae (u2 Tryz.underlying38 Tryz.underlying5 Tryz.underlying9 rfl) ?_
 refine ae (Mi rfl rfl) ?_
 refine ae (aP rfl) ?_
 refine aG ?_
 refine ax ?_
 refine cD ?_
 refine an (.inl rfl) (aK rfl (al rfl)) (fun w1 hw=> ?_)
 exact⟨congrArg (fun b=>Ending.returned (Value.bool b)) (rfl),ah.mem hw⟩
instance ae3{w0:World}{L:List aj}{x:Sv}{xs:List UInt8}{y:Sv}{ys:List UInt8}[hx:cl w0 L aJ 1 x xs][hy:cl w0 L aJ 1 y ys]:bU Tryz.prog 115 w0 L [x.val,y.val] (.bool (decide (xs=ys))) (True):=⟨fun hp w hw=>UN w x xs y ys (hx.h w hw) (hy.h w hw)⟩
theorem UO(w:World)(x:Sv)(xs:List UInt8)(hx:bM aJ 1 (hp w) x xs)(ba:xs.length≤140737488355328):Calls Tryz.prog 110 #[x.val] w fun e w'=> ∃zz:Sv,e= .returned (zz.val)∧(True)∧Mem w [own aJ 1 zz xs] w':=by
 have sI:Gv w x aJ 1 xs:=⟨hx⟩
 refine aW (args:=[_]) Tryz.func110 rfl Tryz.ntmps110 rfl ?_
 change Cw _ _ _ _ _ [(0,x.val)] []
 refine ay ?_
 refine aI ?_
 refine ae (aP rfl) ?_
 refine aG ?_
 refine ax ?_
 refine ay ?_
 refine ay ?_
 refine aI ?_
 refine ae (au rfl) ?_
 refine ae (qC Tryz.underlying38 rfl) ?_
 refine aG ?_
 refine ax ?_
 refine aq rfl (fun h0=> ?_) (fun h0=> ?_)
 ·
  try simp only[Z0,Z1,Z2,Z3,Z4,Z5,Z6,Z7,Z8,Z9]at h0
  have e0:xs=[]:=List.length_eq_zero_iff.1 (by have:=hx.ok.nil h0;have:=hx.len;omega)
  refine ay ?_
  refine aI ?_
  refine ae (aP rfl) ?_
  refine aG ?_
  refine ax ?_
  refine cD ?_
  refine cw ?_
  refine an (.inl rfl) (aK rfl (al rfl)) (fun w1 hw=> ?_)
  exact⟨Sv.none,rfl,trivial,by rw[e0];exact(ah.mem hw:Mem w [] _).cz aJ 1⟩
 ·
  try simp only[Z0,Z1,Z2,Z3,Z4,Z5,Z6,Z7,Z8,Z9]at h0
  refine cS ?_
  refine ax ?_
  refine ay ?_
  refine aI ?_
  refine qD aJ fun b5=> ?_
  refine ae (au rfl) ?_
  refine jG (s:=⟨false,b5,0,0,0,none⟩) (ys:=xs) rfl rfl (by decide) (fun w hw=>gX (s:=x) Tryz.underlying38 (by decide) ((inferInstance:Hd _ _ x aJ 1 xs).h w hw)) (by simp only[List.length_append,List.length_cons,List.length_nil];omega) (by simp only[List.length_append,List.length_cons,List.length_nil];omega) fun s7 uk sD=> ?_
  refine ae (aP rfl) ?_
  refine aG ?_
  refine ax ?_
  refine cD ?_
  refine an (.inl rfl) (aK rfl (al rfl)) (fun w1 hw=> ?_)
  exact⟨s7,rfl,trivial,by simpa using hw⟩
instance ae4{w0:World}{L:List aj}{x:Sv}{xs:List UInt8}[hx:cl w0 L aJ 1 x xs]:bW Tryz.prog 110 w0 L [x.val] (Sv) (fun zz=>zz.val) (fun zz=>own aJ 1 zz xs::L) (fun zz=>True) (xs.length≤140737488355328):=⟨fun hp w hw=>(UO w x xs (hx.h w hw) hp).mono fun e w' ⟨x,h1,h2,h3⟩=>⟨x,h1,h2,hw.call h3⟩⟩
theorem UP(w:World)(a:Sl (Sl UInt8))(b:Sl (Sl UInt8))(ha:Deep.bk (hp w) a)(hb:Deep.bk (hp w) b)(ba:a.xs.length≤1000000∧b.xs.length≤1000000∧ ∀x∈b.xs,x.xs.length≤140737488355328):Calls Tryz.prog 77 #[a.sv.val,b.sv.val] w fun e w'=> ∃zz:Sl It,e= .returned (zz.sv.val)∧(tC zz=jL (lx a) (lx b))∧Mem w [Deep.ck zz] w':=by
 have uq:bT w a:=⟨ha⟩
 have nq:bT w b:=⟨hb⟩
 obtain⟨ln,lu,Dr⟩:=ba
 refine aW (args:=[_,_]) Tryz.func77 rfl Tryz.ntmps77 rfl ?_
 change Cw _ _ _ _ _ [(0,a.sv.val),(1,b.sv.val)] []
 refine ay ?_
 refine aI ?_
 refine ae (aP rfl) ?_
 refine aG ?_
 refine ax ?_
 refine ay ?_
 refine aI ?_
 refine ae (aP rfl) ?_
 refine aG ?_
 refine ax ?_
 refine ay ?_
 refine ay ?_
 refine aI ?_
 refine ae (au rfl) ?_
 refine ae (iT rfl) ?_
 refine ae (au rfl) ?_
 refine ae (iT rfl) ?_
 refine ae (tl rfl rfl) ?_
 refine ae (au rfl) ?_
 refine aG ?_
 refine ax ?_
 refine eL ?_
 refine bK (X:=Nat×Sl It) (fun zz=>[(13, .int .i64 (zz.1:Nat)),(5,zz.2.sv.val),(0,a.sv.val),(1,b.sv.val),(12, .int .i64 (max (a.xs.length:Int) (b.xs.length:Int)))]) (fun zz=>[Deep.ck zz.2]) (fun zz=>zz.1≤max a.xs.length b.xs.length∧tC zz.2=qg (lx a) (lx b) zz.1) (fun zz=>max a.xs.length b.xs.length -zz.1) (0,⟨Sv.none,[]⟩) ⟨by first|omega|(simp only[];omega),rfl⟩ (Sub.cons rfl (Sub.cons rfl (Sub.cons rfl (Sub.cons rfl (Sub.cons rfl (Sub.nil _)))))) (fun w hw=>Mem.y9 (enc:=mB) (c:=2) hw) ?_
 rintro⟨i,l⟩ ⟨bb,aH⟩
 dsimp only
 refine ay ?_
 refine aI ?_
 refine ae (bt rfl rfl rfl) ?_
 refine aG ?_
 refine ax ?_
 refine ay ?_
 refine aq rfl (fun h0=> ?_) (fun h0=> ?_)
 ·
  try simp only[Z0,Z1,Z2,Z3,Z4,Z5,Z6,Z7,Z8,Z9]at h0
  refine cS ?_
  refine ax ?_
  refine ay ?_
  refine eL ?_
  refine ay ?_
  refine aI ?_
  refine ae (au rfl) ?_
  refine ae (aP rfl) ?_
  refine aG ?_
  refine ax ?_
  refine ay ?_
  refine aI ?_
  refine ae (au rfl) ?_
  refine ae (au rfl) ?_
  refine dQ (bX rfl trivial) ?_
  refine ae (aP rfl) ?_
  refine aG ?_
  refine ax ?_
  refine ay ?_
  refine aI ?_
  refine ae (au rfl) ?_
  refine ae (au rfl) ?_
  refine dQ (bX rfl trivial) ?_
  refine ae (au rfl) ?_
  refine dQ (bX rfl trivial) ?_
  refine ae (fU rfl) ?_
  refine aG ?_
  refine ax ?_
  refine aq rfl (fun h1=> ?_) (fun h1=> ?_)
  ·
   try simp only[Z0,Z1,Z2,Z3,Z4,Z5,Z6,Z7,Z8,Z9]at h1
   refine aI ?_
   refine ae (au rfl) ?_
   refine ae (au rfl) ?_
   refine ae (au rfl) ?_
   refine bp rfl (by rcases Nat.lt_or_ge i b.xs.length with h|h;exact Dr _ (by rw[za (List.getElem?_eq_getElem h)];exact List.getElem_mem h);rw[zb h];exact Nat.zero_le _) fun da lF=> ?_
   refine ae (mV rfl) ?_
   refine mz (enc:=mB) (vals:=[_]) [(⟨((i:Nat):Int),⟨da,((oI b i).xs)⟩⟩:It)] rfl rfl rfl (by decide) (by decide) fun eY=> ?_
   refine Mn (s:=⟨false,eY,0,1,1,none⟩) l [(⟨((i:Nat):Int),⟨da,((oI b i).xs)⟩⟩:It)] rfl rfl (by decide) (by have:=congrArg List.length aH;have h9:=DH (lx a) (lx b) i;simp only[tC,List.length_map]at this;simp only[List.length_cons,List.length_nil];omega) (by have:=congrArg List.length aH;have h9:=DH (lx a) (lx b) i;simp only[tC,List.length_map]at this;simp only[List.length_cons,List.length_nil];omega) fun ke UQ=> ?_
   refine ae (aP rfl) ?_
   refine aG ?_
   refine jj ?_
   refine ax ?_
   refine aI ?_
   refine ae (gk rfl rfl (by omega)) ?_
   refine ae (au rfl) ?_
   refine aG ?_
   exact bh (x:=(i,l)) (i+1,ke) ⟨by first|omega|(simp only[];omega),by rw[tC,UQ,List.map_append,PR (by rw[←wW,←wW];exact h1),←aH,←wW];rfl⟩ (by simp only;omega) (Sub.cons rfl (Sub.cons rfl (Sub.cons rfl (Sub.cons rfl (Sub.cons rfl (Sub.nil _)))))) (fun w hw=>ah.mem hw)
  ·
   try simp only[Z0,Z1,Z2,Z3,Z4,Z5,Z6,Z7,Z8,Z9]at h1
   refine cS ?_
   refine jj ?_
   refine ax ?_
   refine aI ?_
   refine ae (gk rfl rfl (by omega)) ?_
   refine ae (au rfl) ?_
   refine aG ?_
   exact bh (x:=(i,l)) (i+1,l) ⟨by first|omega|(simp only[];omega),by rw[PQ (by rw[←wW,←wW];exact h1)];exact aH⟩ (by simp only;omega) (Sub.cons rfl (Sub.cons rfl (Sub.cons rfl (Sub.cons rfl (Sub.cons rfl (Sub.nil _)))))) (fun w hw=>ah.mem hw)
 ·
  try simp only[Z0,Z1,Z2,Z3,Z4,Z5,Z6,Z7,Z8,Z9]at h0
  refine kj ?_
  refine eR ?_
  refine eR ?_
  refine kl ?_
  refine ax ?_
  refine ay ?_
  refine aI ?_
  refine ae (au rfl) ?_
  refine ae (aP rfl) ?_
  refine aG ?_
  refine ax ?_
  refine cD ?_
  refine an (.inl rfl) (aK rfl (al rfl)) (fun w1 hw=> ?_)
  exact⟨l,rfl,(by rw[aH,jL,rM,rM,show i=max a.xs.length b.xs.length by omega]),ah.mem hw⟩
instance ae5{w0:World}{L:List aj}{a:Sl (Sl UInt8)}{b:Sl (Sl UInt8)}[ha:aS w0 L a][hb:aS w0 L b]:bW Tryz.prog 77 w0 L [a.sv.val,b.sv.val] (Sl It) (fun zz=>zz.sv.val) (fun zz=>Deep.ck zz::L) (fun zz=>tC zz=jL (lx a) (lx b)) (a.xs.length≤1000000∧b.xs.length≤1000000∧ ∀x∈b.xs,x.xs.length≤140737488355328):=⟨fun hp w hw=>(UP w a b (ha.h w hw) (hb.h w hw) hp).mono fun e w' ⟨x,h1,h2,h3⟩=>⟨x,h1,h2,hw.call h3⟩⟩
open Go.aL Go.Kb
theorem UR(w:World)(b:Sv)(bs:List UInt8)(hb:bM aJ 1 (hp w) b bs)(ba:bs.length=20):Calls Tryz.prog 139 #[b.val] w fun e w'=>e= .returned (.tuple #[.agg (aw (rdv bs)), .bool (lj bs)])∧Mem w [] w':=by
 have nq:Gv w b aJ 1 bs:=⟨hb⟩
 have eg: ∀(i:Nat) e,bs[i]? =some e→bs.getD i 0=e:=fun i e h=>by simp[List.getD,h]
 obtain⟨e6,Kl⟩:=get_some (xs:=bs) (i:=0) (by omega)
 have yt:=eg 0 e6 Kl
 refine aW (args:=[_]) Tryz.func139 rfl Tryz.ntmps139 rfl ?_
 change Cw _ _ _ _ _ [(0,b.val)] []
 refine ay ?_
 refine aI ?_
 refine bx fun b2=> ?_
 refine ae (aP rfl) ?_
 refine aG ?_
 refine ax ?_
 refine ay ?_
 refine aI ?_
 refine bx fun b4=> ?_
 refine aG ?_
 refine ax ?_
 refine wK (X:=Unit) (fun zz=>[(0,b.val),(2, .pointer (some ⟨b2,0,none⟩)),(4, .pointer (some ⟨b4,0,none⟩))]) (fun zz=>[ar b4 ((aw fI).setIfInBounds 0 (.int .i64 (if e6=1 then 128 else 32))) 68,ar b2 (aw fI) 68]) (fun zz=>e6≤1) ?_ ?_
 ·
  refine ay ?_
  refine aI ?_
  refine ae (au rfl) ?_
  refine ae (aX rfl rfl 0 rfl (by omega)) ?_
  refine ae (bn (j:=0) rfl 0 Kl rfl (by decide)) ?_
  refine aG ?_
  refine ax ?_
  refine eL ?_
  refine ay ?_
  refine aI ?_
  refine ae (bt rfl rfl rfl) ?_
  refine ae (aP rfl) ?_
  refine aG ?_
  refine ax ?_
  refine aq rfl (fun h0=> ?_) (fun h0=> ?_)
  ·
   try simp only[Z0,Z1,Z2,Z3,Z4,Z5,Z6,Z7,Z8,Z9]at h0
   obtain rfl:e6=0:=UInt8.toNat_inj.1 (by simp;omega)
   refine aI ?_
   refine ae (aA (o':=0) rfl rfl) ?_
   refine ae (aA (o':=0) rfl rfl) ?_
   refine dM rfl rfl (by simp[hU]) rfl rfl ?_
   refine aG ?_
   refine jj ?_
   exact pD () (by decide) (Sub.cons rfl (Sub.cons rfl (Sub.cons rfl (Sub.nil _)))) (fun w hw=>hw)
  ·
   try simp only[Z0,Z1,Z2,Z3,Z4,Z5,Z6,Z7,Z8,Z9]at h0
   refine ay ?_
   refine aI ?_
   refine ae (bt rfl rfl rfl) ?_
   refine ae (aP rfl) ?_
   refine aG ?_
   refine ax ?_
   refine aq rfl (fun h1=> ?_) (fun h1=> ?_)
   ·
    try simp only[Z0,Z1,Z2,Z3,Z4,Z5,Z6,Z7,Z8,Z9]at h1
    obtain rfl:e6=1:=UInt8.toNat_inj.1 (by simp;omega)
    refine aI ?_
    refine ae (aA (o':=0) rfl rfl) ?_
    refine ae (aA (o':=0) rfl rfl) ?_
    refine dM rfl rfl (by simp[hU]) rfl rfl ?_
    refine aG ?_
    refine jj ?_
    exact pD () (by decide) (Sub.cons rfl (Sub.cons rfl (Sub.cons rfl (Sub.nil _)))) (fun w hw=>hw)
   ·
    try simp only[Z0,Z1,Z2,Z3,Z4,Z5,Z6,Z7,Z8,Z9]at h1
    have Km: ¬e6≤1:=fun h=>by rw[UInt8.le_iff_toNat_le]at h;simp at h;omega
    refine ay ?_
    refine aI ?_
    refine ae (mV rfl) ?_
    refine pC rfl rfl ?_
    refine ae (aP rfl) ?_
    refine aG ?_
    refine ax ?_
    refine cD ?_
    refine fW ?_
    refine cw ?_
    refine an (.inl rfl) (aZ rfl (bG rfl) (al rfl)) (fun w1 hw=> ?_)
    exact⟨by rw[show lj bs=false from by rw[lj,yt];exact decide_eq_false Km,show rdv bs=fI from if_neg (by rw[lj,yt];simpa using Km)],ah.mem hw⟩
 ·
  rintro⟨⟩ hJ
  refine ay ?_
  refine aI ?_
  refine ae (au rfl) ?_
  obtain⟨A3,wm⟩:=get_some (xs:=bs) (i:=1) (by omega)
  refine ae (aX rfl rfl 1 rfl (by omega)) ?_
  refine ae (bn (j:=0) rfl 1 wm rfl (by decide)) ?_
  have US:=eg 1 A3 wm
  refine ae (nH rfl) ?_
  refine ae (aA (o':=0) rfl rfl) ?_
  refine ae (aA (o':=1) rfl rfl) ?_
  refine dM rfl rfl (by simp[hU]) rfl rfl ?_
  refine aG ?_
  refine ax ?_
  refine ay ?_
  refine fw [5] [[],[],[],[],[],[]] [0,1,2,3,4,5] [] (fun _ hw=>ah.mem hw) (by kernel_rfl) (by kernel_rfl) ?_
  refine ak rfl (aA (o':=0) rfl rfl) ?_
  refine ak rfl (aA (o':=2) rfl rfl) ?_
  refine ak rfl (tk rfl) ?_
  refine ak rfl (au rfl) ?_
  have AF:Rg 2 18 bs.length:=⟨by omega⟩
  refine ak rfl (rL rfl rfl rfl 2 18 rfl rfl AF.h.1 AF.h.2) ?_
  refine cK rfl (Nh (ys:=(bs.drop 2).take 16) rfl rfl (by simp;omega) (by simp;omega) (by simp[hU];omega) rfl ⟨fun _ hw=>ah.mem hw,?_⟩)
  refine xf ?_
  refine ax ?_
  refine ay ?_
  refine fw [11] [[],[],[],[],[],[],[],[],[],[],[],[]] [0,1,2,3,4,5,6,7,8,9,10,11] [] (fun _ hw=>ah.mem hw) (by kernel_rfl) (by kernel_rfl) ?_
  refine ak rfl (au rfl) ?_
  obtain⟨UT,Kn⟩:=get_some (xs:=bs) (i:=18) (by omega)
  refine ak rfl (aX rfl rfl 18 rfl (by omega)) ?_
  refine ak rfl (bn (j:=0) rfl 18 Kn rfl (by decide)) ?_
  have UU:=eg 18 UT Kn
  refine ak rfl (nH rfl) ?_
  refine ak rfl (FY rfl rfl) ?_
  refine ak rfl (au rfl) ?_
  obtain⟨UW,Ko⟩:=get_some (xs:=bs) (i:=19) (by omega)
  refine ak rfl (aX rfl rfl 19 rfl (by omega)) ?_
  refine ak rfl (bn (j:=0) rfl 19 Ko rfl (by decide)) ?_
  have UX:=eg 19 UW Ko
  refine ak rfl (nH rfl) ?_
  refine ak rfl (FZ rfl rfl) ?_
  refine ak rfl (aA (o':=18) rfl rfl) ?_
  refine cK rfl (tI rfl rfl (by rw[lM (by rw[List.size_toArray,gl];simp[hU];omega)];simp[hU]) rfl rfl ⟨fun _ hw=>ah.mem hw,?_⟩)
  refine xf ?_
  refine ax ?_
  refine ay ?_
  refine oH [ar b4 (aw (jK bs)) 68,ar b2 (aw fI) 68] (fun w hw=> ?_) ?_
  ·
   rw[←PT (b:=bs) ba (if e6=1 then 128 else 32) (by rw[yt]),US,UU,UX];exact hw
  refine aI ?_
  refine ae (dW rfl) ?_
  refine pC rfl rfl ?_
  refine ae (aP rfl) ?_
  refine aG ?_
  refine ax ?_
  refine cD ?_
  refine an (.inl rfl) (aZ rfl (bG rfl) (al rfl)) (fun w1 hw=> ?_)
  exact⟨by rw[show rdv bs=jK bs from if_pos (by rw[lj,yt];exact decide_eq_true hJ),show lj bs=true from by rw[lj,yt];exact decide_eq_true hJ],ah.mem hw⟩
instance ae6{w0:World}{L:List aj}{b:Sv}{bs:List UInt8}[hb:cl w0 L aJ 1 b bs]:bU Tryz.prog 139 w0 L [b.val] (.tuple #[.agg (aw (rdv bs)), .bool (lj bs)]) (bs.length=20):=⟨fun hp w hw=>UR w b bs (hb.h w hw) hp⟩
open Go.aL Go.Kb
instance ae7{w0:World}{L:List aj}{s:Sv}{xs:List UInt8}{r:Rt}{i:Nat}{L':Sv→List aj}[q:eT L s aJ 1 xs i][u: ∀s',eK L i (own aJ 1 s' (xs++gH r)) (L' s')]:bW Tryz.prog 113 w0 L [s.val, .agg (aw r)] Sv (fun s=>s.val) L' (fun _=>True) (xs.length≤1000000):=⟨fun hp w hw=>
 (Uu w0 w (L.eraseIdx i) s xs r (hw.perm (mA q.h)) hp).mono fun e w' ⟨s',h1,h2,h3,h4⟩=>⟨s',h1,trivial,by
  rw[←(u s').h]
  exact h4.perm (set_perm _ L i (At.lt q.h))⟩⟩
theorem UY(w:World)(a:Sl (Sl UInt8))(ha:Deep.bk (hp w) a)(ba:a.xs.length≤1000∧ ∀x∈a.xs,x.xs.length≤100000):Calls Tryz.prog 101 #[a.sv.val] w fun e w'=> ∃zz:Sv,e= .returned (.tuple #[zz.val, .int .i64 (jy (lx a))])∧(True)∧Mem w [own aw 19 zz (iu (lx a))] w':=by
 have uq:bT w a:=⟨ha⟩
 obtain⟨ln,lu⟩:=ba
 have hl:=rM a
 refine aW (args:=[_]) Tryz.func101 rfl Tryz.ntmps101 rfl ?_
 change Cw _ _ _ _ _ [(0,a.sv.val)] []
 refine ay ?_
 refine aI ?_
 refine ae (aP rfl) ?_
 refine ae (aP rfl) ?_
 refine aG ?_
 refine ax ?_
 refine ay ?_
 refine aI ?_
 refine ae (aP rfl) ?_
 refine aG ?_
 refine ax ?_
 refine ay ?_
 refine ay ?_
 refine aI ?_
 refine ae (au rfl) ?_
 refine ae (iT rfl) ?_
 refine ae (au rfl) ?_
 refine aG ?_
 refine ax ?_
 refine eL ?_
 refine bK (X:=Nat×Sv×List Rt) (fun zz=>[(11, .int .i64 (zz.1:Nat)),(4,zz.2.1.val),(9,a.sv.val),(10, .int .i64 (a.xs.length:Nat))]) (fun zz=>[own aw 19 zz.2.1 zz.2.2]) (fun zz=>zz.1≤a.xs.length∧fO ((lx a).take zz.1)=some zz.2.2∧zz.2.2.length≤zz.1*100000) (fun zz=>a.xs.length -zz.1) (0,Sv.none,[]) ⟨by first|omega|(simp only[];omega),rfl,by simp⟩ (Sub.cons rfl (Sub.cons rfl (Sub.cons rfl (Sub.cons rfl (Sub.nil _))))) (fun w hw=>Mem.cz aw 19 hw) ?_
 rintro⟨i,t,q⟩ ⟨bb,aH,bu⟩
 dsimp only
 simp only at bb aH bu
 refine ay ?_
 refine aI ?_
 refine ae (bt rfl rfl rfl) ?_
 refine aG ?_
 refine ax ?_
 refine ay ?_
 refine aq rfl (fun h0=> ?_) (fun h0=> ?_)
 ·
  try simp only[Z0,Z1,Z2,Z3,Z4,Z5,Z6,Z7,Z8,Z9]at h0
  refine cS ?_
  refine ax ?_
  refine ay ?_
  refine eL ?_
  refine ay ?_
  refine aI ?_
  obtain⟨x,hx⟩:=get_some (xs:=a.xs) (i:=i) (by omega)
  refine ae (aX rfl rfl i rfl (by omega)) ?_
  refine ae (bn (j:=0) rfl i hx rfl (by decide)) ?_
  have uw:Mb x _:=⟨List.mem_of_getElem? hx⟩
  have ex:(lx a)[i]? =some x.xs:=by simp[lx,hx]
  have AE:Mb x _:=⟨List.mem_of_getElem? hx⟩
  refine ae (aP rfl) ?_
  refine aG ?_
  refine ax ?_
  refine ay ?_
  refine ay ?_
  refine aI ?_
  refine ae (au rfl) ?_
  refine ae (iT rfl) ?_
  refine ae (uY (p:=x.xs.length) (q:=20) rfl rfl rfl rfl (by omega)) ?_
  refine ae (bt rfl rfl rfl) ?_
  refine aG ?_
  refine ax ?_
  refine aq rfl (fun h1=> ?_) (fun h1=> ?_)
  ·
   try simp only[Z0,Z1,Z2,Z3,Z4,Z5,Z6,Z7,Z8,Z9]at h1
   have fa:fO (lx a)=none:=Aj (i:=i+1) (by rw[vP ex,aH,DF _ x.xs (Nat.le_refl _) (by omega)];rfl)
   refine ay ?_
   refine aI ?_
   refine ae (aP rfl) ?_
   refine ae (aP rfl) ?_
   refine aG ?_
   refine ax ?_
   refine cD ?_
   refine cw ?_
   refine fW ?_
   refine cw ?_
   refine cw ?_
   refine fW ?_
   refine cw ?_
   refine an (.inl rfl) (aZ rfl (al rfl) (al rfl)) (fun w1 hw=> ?_)
   exact⟨Sv.none,by rw[(sB fa).2];rfl,trivial,by rw[(sB fa).1];exact(ah.mem hw:Mem w [] _).cz aw 19⟩
  ·
   try simp only[Z0,Z1,Z2,Z3,Z4,Z5,Z6,Z7,Z8,Z9]at h1
   refine cS ?_
   refine ax ?_
   refine eL ?_
   refine bK (X:=Sv×List UInt8×Sv×List Rt) (fun zz=>[(6,zz.1.val),(4,zz.2.2.1.val),(9,a.sv.val),(10, .int .i64 (a.xs.length:Nat)),(11, .int .i64 (i:Nat))]) (fun zz=>[own aw 19 zz.2.2.1 zz.2.2.2]) (fun zz=> ∃pre,zz.2.2.2=q++pre∧ir x.xs=(ir zz.2.1).map (pre++ ·)∧bM aJ 1 (hp w) zz.1 zz.2.1∧zz.2.1.length%20=0∧zz.2.2.2.length+zz.2.1.length≤(i+1)*100000) (fun zz=>zz.2.1.length) (x.sv,x.xs,t,q) ⟨[],by simp,by cases ir x.xs<;>rfl,(ha.2 x (List.mem_of_getElem? hx)).1,by first|omega|(simp only[];omega),by have:=lu x (List.mem_of_getElem? hx);simp only;omega⟩ (Sub.cons rfl (Sub.cons rfl (Sub.cons rfl (Sub.cons rfl (Sub.cons rfl (Sub.nil _)))))) (fun w hw=>ah.mem hw) ?_
   rintro⟨cu,cs,t2,q2⟩ ⟨pre,jA,db,gM,jQ,sV⟩
   dsimp only
   simp only at jA db gM jQ sV
   have gcu:Gv w cu aJ 1 cs:=⟨gM⟩
   refine ay ?_
   refine ay ?_
   refine aI ?_
   refine ae (au rfl) ?_
   refine ae (iT rfl) ?_
   refine ae (bt rfl rfl rfl) ?_
   refine aG ?_
   refine ax ?_
   refine aq rfl (fun h2=> ?_) (fun h2=> ?_)
   ·
    try simp only[Z0,Z1,Z2,Z3,Z4,Z5,Z6,Z7,Z8,Z9]at h2
    have UZ:20≤cs.length:=by omega
    have ES:(cs.drop 0).take (20 -0)=cs.take 20:=by simp
    have ec:=DE UZ
    rw[IT]at ec
    refine cS ?_
    refine ax ?_
    refine ay ?_
    refine eL ?_
    refine ay ?_
    refine aI ?_
    refine ae (au rfl) ?_
    have U0:Rg 0 20 cs.length:=⟨by omega⟩
    refine ae (wU rfl rfl 20 rfl U0.h.2) ?_
    refine dQ (bX rfl (by simp;omega)) ?_
    refine ae (au rfl) ?_
    refine ae (aU (v:= .agg (aw (rdv ((cs.drop 0).take (20 -0))))) rfl rfl) ?_
    refine ae (aU (v:= .bool (lj ((cs.drop 0).take (20 -0)))) rfl rfl) ?_
    refine bx fun b7=> ?_
    refine pC rfl rfl ?_
    refine ae (aP rfl) ?_
    refine aG ?_
    refine ax ?_
    refine ay ?_
    refine ay ?_
    refine aI ?_
    refine ae (au rfl) ?_
    refine ae (fU rfl) ?_
    refine aG ?_
    refine ax ?_
    refine aq rfl (fun h3=> ?_) (fun h3=> ?_)
    ·
     try simp only[Z0,Z1,Z2,Z3,Z4,Z5,Z6,Z7,Z8,Z9]at h3
     rw[ES]at h3
     have fa:fO (lx a)=none:=Aj (i:=i+1) (by rw[vP ex,aH,db,ec,h3];rfl)
     refine ay ?_
     refine aI ?_
     refine ae (aP rfl) ?_
     refine ae (aP rfl) ?_
     refine aG ?_
     refine ax ?_
     refine cD ?_
     refine cw ?_
     refine fW ?_
     refine cw ?_
     refine cw ?_
     refine fW ?_
     refine fW ?_
     refine cw ?_
     refine cw ?_
     refine fW ?_
     refine cw ?_
     refine an (.inl rfl) (aZ rfl (al rfl) (al rfl)) (fun w1 hw=> ?_)
     exact⟨Sv.none,by rw[(sB fa).2];rfl,trivial,by rw[(sB fa).1];exact(ah.mem hw:Mem w [] _).cz aw 19⟩
    ·
     try simp only[Z0,Z1,Z2,Z3,Z4,Z5,Z6,Z7,Z8,Z9]at h3
     rw[ES]at h3
     rw[h3]at ec
     simp only[if_true,Option.bind_some]at ec
     have U1:rdv ((cs.drop 0).take (20 -0))=jK (cs.take 20):=by rw[ES,rdv,if_pos h3]
     refine cS ?_
     refine ax ?_
     refine aI ?_
     refine ae (au rfl) ?_
     refine ae (dW rfl) ?_
     refine mz (enc:=aw) (vals:=[_]) [(rdv ((cs.drop 0).take (20 -0)))] rfl rfl rfl (by decide) (by decide) fun ym=> ?_
     refine jG (s:=t2) (ys:=[(rdv ((cs.drop 0).take (20 -0)))]) rfl rfl (by decide) (fun w hw=>gX (s:=⟨false,ym,0,1,1,none⟩) Tryz.underlying52 (by decide) ((inferInstance:Hd _ _ ⟨false,ym,0,1,1,none⟩ aw 19 [(rdv ((cs.drop 0).take (20 -0)))]).h w hw)) (by simp only[List.length_cons,List.length_nil];omega) (by simp only[List.length_cons,List.length_nil];omega) fun U2 ae8 ae9=> ?_
     refine ae (aP rfl) ?_
     refine aG ?_
     refine jj ?_
     refine ax ?_
     refine aI ?_
     refine ae (au rfl) ?_
     have U3:Rg 20 cs.length cs.length:=⟨by omega⟩
     refine ae (y8 rfl rfl 20 rfl U3.h.1) ?_
     refine ae (aP rfl) ?_
     refine aG ?_
     exact bh (x:=(cu,cs,t2,q2)) (_,cs.drop 20,U2,q2++[jK (cs.take 20)]) ⟨pre++[jK (cs.take 20)],by simp[jA],by rw[db,ec];cases ir (cs.drop 20)<;>simp,by have:=gM.sub (lo:=20) (hi:=cs.length) (by first|omega|(simp only[];omega)) (Nat.le_refl _);rwa [List.take_of_length_le (by rw[List.length_drop];omega)]at this,by simp only[List.length_drop];omega,by simp only[List.length_append,List.length_drop,List.length_cons,List.length_nil];omega⟩ (by simp only[List.length_drop];omega) (Sub.cons rfl (Sub.cons rfl (Sub.cons rfl (Sub.cons rfl (Sub.cons rfl (Sub.nil _)))))) (fun w hw=>by rw[U1]at hw;exact ah.mem hw)
   ·
    try simp only[Z0,Z1,Z2,Z3,Z4,Z5,Z6,Z7,Z8,Z9]at h2
    refine kj ?_
    refine eR ?_
    refine eR ?_
    refine kl ?_
    refine jj ?_
    refine ax ?_
    refine aI ?_
    refine ae (gk rfl rfl (by omega)) ?_
    refine ae (au rfl) ?_
    refine aG ?_
    exact bh (x:=(i,t,q)) (i+1,t2,q2) ⟨by first|omega|(simp only[];omega),by rw[vP ex,aH,Option.bind_some,db,show cs=[]from List.length_eq_zero_iff.1 (by first|omega|(simp only[];omega)),IS];simp[jA],by simp only;omega⟩ (by simp only;omega) (Sub.cons rfl (Sub.cons rfl (Sub.cons rfl (Sub.cons rfl (Sub.nil _))))) (fun w hw=>ah.mem hw)
 ·
  try simp only[Z0,Z1,Z2,Z3,Z4,Z5,Z6,Z7,Z8,Z9]at h0
  refine kj ?_
  refine eR ?_
  refine eR ?_
  refine kl ?_
  refine ax ?_
  refine ay ?_
  refine ay ?_
  have gZ:fO (lx a)=some q:=by rw[←aH,List.take_of_length_le (by omega)]
  refine aI ?_
  refine ae (au rfl) ?_
  refine dQ (bX rfl trivial) ?_
  refine ae (fU rfl) ?_
  refine aG ?_
  refine ax ?_
  refine aq rfl (fun h4=> ?_) (fun h4=> ?_)
  ·
   try simp only[Z0,Z1,Z2,Z3,Z4,Z5,Z6,Z7,Z8,Z9]at h4
   refine ay ?_
   refine aI ?_
   refine ae (aP rfl) ?_
   refine ae (aP rfl) ?_
   refine aG ?_
   refine ax ?_
   refine cD ?_
   refine cw ?_
   refine an (.inl rfl) (aZ rfl (al rfl) (al rfl)) (fun w1 hw=> ?_)
   exact⟨Sv.none,by rw[(Ak gZ h4).2];rfl,trivial,by rw[(Ak gZ h4).1];exact(ah.mem hw:Mem w [] _).cz aw 19⟩
  ·
   try simp only[Z0,Z1,Z2,Z3,Z4,Z5,Z6,Z7,Z8,Z9]at h4
   refine cS ?_
   refine ax ?_
   refine ay ?_
   refine aI ?_
   refine ae (au rfl) ?_
   refine ae (aP rfl) ?_
   refine ae (aP rfl) ?_
   refine aG ?_
   refine ax ?_
   refine cD ?_
   refine an (.inl rfl) (aZ rfl (al rfl) (al rfl)) (fun w1 hw=> ?_)
   exact⟨t,by rw[(Al gZ h4).2],trivial,by rw[(Al gZ h4).1];exact hw⟩
instance U4{w0:World}{L:List aj}{a:Sl (Sl UInt8)}[ha:aS w0 L a]:bW Tryz.prog 101 w0 L [a.sv.val] (Sv) (fun zz=> .tuple #[zz.val, .int .i64 (jy (lx a))]) (fun zz=>own aw 19 zz (iu (lx a))::L) (fun zz=>True) (a.xs.length≤1000∧ ∀x∈a.xs,x.xs.length≤100000):=⟨fun hp w hw=>(UY w a (ha.h w hw) hp).mono fun e w' ⟨x,h1,h2,h3⟩=>⟨x,h1,h2,hw.call h3⟩⟩
open Go.aL Go.Kb
theorem U5(w:World)(a:Sl (Sl UInt8))(ha:Deep.bk (hp w) a)(ba:a.xs.length≤1000∧ ∀x∈a.xs,x.xs.length≤100000):Calls Tryz.prog 55 #[a.sv.val] w fun e w'=> ∃zz:Sv,e= .returned (.tuple #[zz.val, .int .i64 (jy (lx a))])∧(True)∧Mem w [own aw 19 zz (iu (lx a))] w':=by
 have uq:bT w a:=⟨ha⟩
 obtain⟨ln,lu⟩:=ba
 have hl:=rM a
 refine aW (args:=[_]) Tryz.func55 rfl Tryz.ntmps55 rfl ?_
 change Cw _ _ _ _ _ [(0,a.sv.val)] []
 refine ay ?_
 refine aI ?_
 refine ae (aP rfl) ?_
 refine ae (aP rfl) ?_
 refine aG ?_
 refine ax ?_
 refine ay ?_
 refine aI ?_
 refine ae (aP rfl) ?_
 refine aG ?_
 refine ax ?_
 refine ay ?_
 refine ay ?_
 refine aI ?_
 refine ae (aP rfl) ?_
 refine aG ?_
 refine ax ?_
 refine eL ?_
 refine bK (X:=Nat×Sv×List Rt) (fun zz=>[(5, .int .i64 (zz.1:Nat)),(4,zz.2.1.val),(0,a.sv.val)]) (fun zz=>[own aw 19 zz.2.1 zz.2.2]) (fun zz=>zz.1≤a.xs.length∧fO ((lx a).take zz.1)=some zz.2.2∧zz.2.2.length≤zz.1*100000) (fun zz=>a.xs.length -zz.1) (0,Sv.none,[]) ⟨by first|omega|(simp only[];omega),rfl,by simp⟩ (Sub.cons rfl (Sub.cons rfl (Sub.cons rfl (Sub.nil _)))) (fun w hw=>Mem.cz aw 19 hw) ?_
 rintro⟨i,t,q⟩ ⟨bb,aH,bu⟩
 dsimp only
 simp only at bb aH bu
 refine ay ?_
 refine ay ?_
 refine aI ?_
 refine ae (au rfl) ?_
 refine ae (au rfl) ?_
 refine ae (iT rfl) ?_
 refine ae (bt rfl rfl rfl) ?_
 refine aG ?_
 refine ax ?_
 refine aq rfl (fun h0=> ?_) (fun h0=> ?_)
 ·
  try simp only[Z0,Z1,Z2,Z3,Z4,Z5,Z6,Z7,Z8,Z9]at h0
  refine cS ?_
  refine ax ?_
  refine ay ?_
  refine eL ?_
  refine ay ?_
  refine aI ?_
  refine ae (au rfl) ?_
  refine ae (au rfl) ?_
  obtain⟨x,hx⟩:=get_some (xs:=a.xs) (i:=i) (by omega)
  refine ae (aX rfl rfl i rfl (by omega)) ?_
  refine ae (bn (j:=0) rfl i hx rfl (by decide)) ?_
  have uw:Mb x _:=⟨List.mem_of_getElem? hx⟩
  have zM:=lu x (List.mem_of_getElem? hx)
  have ex:(lx a)[i]? =some x.xs:=by simp[lx,hx]
  have T8:Mb x _:=⟨List.mem_of_getElem? hx⟩
  refine ae (aP rfl) ?_
  refine aG ?_
  refine ax ?_
  refine ay ?_
  refine ay ?_
  refine aI ?_
  refine ae (au rfl) ?_
  refine ae (iT rfl) ?_
  refine ae (uY (p:=x.xs.length) (q:=20) rfl rfl rfl rfl (by omega)) ?_
  refine ae (bt rfl rfl rfl) ?_
  refine aG ?_
  refine ax ?_
  refine aq rfl (fun h1=> ?_) (fun h1=> ?_)
  ·
   try simp only[Z0,Z1,Z2,Z3,Z4,Z5,Z6,Z7,Z8,Z9]at h1
   have fa:fO (lx a)=none:=Aj (i:=i+1) (by rw[vP ex,aH,DF _ x.xs (Nat.le_refl _) (by omega)];rfl)
   refine ay ?_
   refine aI ?_
   refine ae (aP rfl) ?_
   refine ae (aP rfl) ?_
   refine aG ?_
   refine ax ?_
   refine cD ?_
   refine cw ?_
   refine fW ?_
   refine cw ?_
   refine cw ?_
   refine fW ?_
   refine cw ?_
   refine an (.inl rfl) (aZ rfl (al rfl) (al rfl)) (fun w1 hw=> ?_)
   exact⟨Sv.none,by rw[(sB fa).2];rfl,trivial,by rw[(sB fa).1];exact(ah.mem hw:Mem w [] _).cz aw 19⟩
  ·
   try simp only[Z0,Z1,Z2,Z3,Z4,Z5,Z6,Z7,Z8,Z9]at h1
   refine cS ?_
   refine ax ?_
   refine ay ?_
   refine aI ?_
   refine ae (aP rfl) ?_
   refine aG ?_
   refine ax ?_
   refine eL ?_
   refine bK (X:=Nat×Sv×List Rt) (fun zz=>[(7, .int .i64 (zz.1:Nat)),(4,zz.2.1.val),(0,a.sv.val),(5, .int .i64 (i:Nat)),(6,x.sv.val)]) (fun zz=>[own aw 19 zz.2.1 zz.2.2]) (fun zz=> ∃pre,zz.2.2=q++pre∧ir x.xs=(ir (x.xs.drop zz.1)).map (pre++ ·)∧zz.1%20=0∧zz.1≤x.xs.length∧zz.2.2.length≤i*100000+zz.1) (fun zz=>x.xs.length -zz.1) (0,t,q) ⟨[],by simp,by show _=(ir (x.xs.drop 0)).map _;rw[List.drop_zero];cases ir x.xs<;>rfl,rfl,Nat.zero_le _,Nat.le_trans bu (Nat.le_add_right _ _)⟩ (Sub.cons rfl (Sub.cons rfl (Sub.cons rfl (Sub.cons rfl (Sub.cons rfl (Sub.nil _)))))) (fun w hw=>ah.mem hw) ?_
   rintro⟨k,t2,q2⟩ ⟨pre,jA,db,gM,jQ,sV⟩
   dsimp only
   simp only at jA db gM jQ sV
   refine ay ?_
   refine ay ?_
   refine aI ?_
   refine ae (au rfl) ?_
   refine ae (au rfl) ?_
   refine ae (iT rfl) ?_
   refine ae (bt rfl rfl rfl) ?_
   refine aG ?_
   refine ax ?_
   refine aq rfl (fun h2=> ?_) (fun h2=> ?_)
   ·
    try simp only[Z0,Z1,Z2,Z3,Z4,Z5,Z6,Z7,Z8,Z9]at h2
    have U6:k+20≤x.xs.length:=by omega
    have ec:=P0 U6
    rw[IT]at ec
    have eg: ∀(i:Nat) e,x.xs[i]? =some e→x.xs.getD i 0=e:=fun i e h=>by simp[List.getD,h]
    refine cS ?_
    refine ax ?_
    refine ay ?_
    refine eL ?_
    refine ay ?_
    refine ay ?_
    refine aI ?_
    refine ae (au rfl) ?_
    refine ae (au rfl) ?_
    obtain⟨e0,yq⟩:=get_some (xs:=x.xs) (i:=k) (by omega)
    refine ae (aX rfl rfl k rfl (by omega)) ?_
    refine ae (bn (j:=0) rfl k yq rfl (by decide)) ?_
    refine ae (bt rfl rfl rfl) ?_
    refine aG ?_
    refine ax ?_
    refine aq rfl (fun h3=> ?_) (fun h3=> ?_)
    ·
     try simp only[Z0,Z1,Z2,Z3,Z4,Z5,Z6,Z7,Z8,Z9]at h3
     have mi:lj ((x.xs.drop k).take 20)=false:=by rw[lj,DI 0 (by decide),Nat.add_zero,eg k e0 yq];exact decide_eq_false (fun h=>by rw[UInt8.le_iff_toNat_le]at h;simp at h;omega)
     have fa:fO (lx a)=none:=Aj (i:=i+1) (by rw[vP ex,aH,db,ec,mi];rfl)
     refine ay ?_
     refine aI ?_
     refine ae (aP rfl) ?_
     refine ae (aP rfl) ?_
     refine aG ?_
     refine ax ?_
     refine cD ?_
     refine cw ?_
     refine fW ?_
     refine cw ?_
     refine cw ?_
     refine fW ?_
     refine fW ?_
     refine cw ?_
     refine cw ?_
     refine fW ?_
     refine cw ?_
     refine an (.inl rfl) (aZ rfl (al rfl) (al rfl)) (fun w1 hw=> ?_)
     exact⟨Sv.none,by rw[(sB fa).2];rfl,trivial,by rw[(sB fa).1];exact(ah.mem hw:Mem w [] _).cz aw 19⟩
    ·
     try simp only[Z0,Z1,Z2,Z3,Z4,Z5,Z6,Z7,Z8,Z9]at h3
     have U7:lj ((x.xs.drop k).take 20)=true:=by rw[lj,DI 0 (by decide),Nat.add_zero,eg k e0 yq];exact decide_eq_true (by rw[UInt8.le_iff_toNat_le];simp;omega)
     rw[U7]at ec
     simp only[if_true,Option.bind_some]at ec
     refine cS ?_
     refine ax ?_
     refine ay ?_
     obtain⟨A3,wm⟩:=get_some (xs:=x.xs) (i:=k+18) (by omega)
     obtain⟨Kp,ET⟩:=get_some (xs:=x.xs) (i:=k+18+1) (by omega)
     refine fw [16,17] [[],[],[],[],[],[],[],[],[],[],[],[],[],[],[],[],[],[16]] [0,1,2,3,4,5,6,7,8,9,10,11,12,13,14,15,16,17] [] (fun _ hw=>ah.mem hw) (by kernel_rfl) (by kernel_rfl) ?_
     refine ak rfl (au rfl) ?_
     refine ak rfl (au rfl) ?_
     refine ak rfl (gk rfl rfl (by omega)) ?_
     obtain⟨e38,EU⟩:=get_some (xs:=x.xs) (i:=(k+1)) (by omega)
     refine ak rfl (aX rfl rfl (k+1) rfl (by omega)) ?_
     refine ak rfl (bn (j:=0) rfl (k+1) EU rfl (by decide)) ?_
     refine ak rfl (nH rfl) ?_
     refine ak rfl (mV rfl) ?_
     refine ak rfl (au rfl) ?_
     refine ak rfl (au rfl) ?_
     refine ak rfl (gk rfl rfl (by omega)) ?_
     refine ak rfl (au rfl) ?_
     refine ak rfl (gk rfl rfl (by omega)) ?_
     have Kq:Rg (k+18) (k+20) x.xs.length:=⟨by omega⟩
     refine ak rfl (rL rfl rfl rfl (k+18) (k+20) rfl rfl Kq.h.1 Kq.h.2) ?_
     refine nM rfl (bX rfl (by simp;omega)) ?_
     refine ak rfl (pB rfl (show IntKind.u16.wrap _=((kD A3 Kp).toNat:Int)from by rw[PU wm ET rfl];exact mv (by simp only[nb];exact(kD A3 Kp).toNat_lt))) ?_
     refine ak rfl (mV rfl) ?_
     refine cK rfl (zu fun b8=>⟨fun _ hw=>ah.mem hw,?_⟩)
     refine cK rfl (km rfl rfl ⟨fun _ hw=>ah.mem hw,?_⟩)
     refine xf ?_
     refine ax ?_
     refine wK (X:=Unit) (fun zz=>[(0,a.sv.val),(4,t2.val),(5, .int .i64 (i:Nat)),(6,x.sv.val),(7, .int .i64 (k:Nat)),(8, .pointer (some ⟨b8,0,none⟩))]) (fun zz=>[ar b8 (aw ⟨⟨if x.xs.getD k 0=1 then 128 else 32,(x.xs.getD (k+1) 0).toNat,0#128⟩,kD (x.xs.getD (k+18) 0) (x.xs.getD (k+19) 0)⟩) 68,own aw 19 t2 q2]) (fun zz=>True) ?_ ?_
     ·
      refine ay ?_
      refine aI ?_
      refine ae (au rfl) ?_
      refine ae (au rfl) ?_
      obtain⟨e53,EV⟩:=get_some (xs:=x.xs) (i:=k) (by omega)
      refine ae (aX rfl rfl k rfl (by omega)) ?_
      refine ae (bn (j:=0) rfl k EV rfl (by decide)) ?_
      refine ae (bt rfl rfl rfl) ?_
      refine aG ?_
      refine ax ?_
      refine aq rfl (fun h4=> ?_) (fun h4=> ?_)
      ·
       try simp only[Z0,Z1,Z2,Z3,Z4,Z5,Z6,Z7,Z8,Z9]at h4
       have EW:x.xs.getD k 0=1:=by rw[eg _ _ EV];exact UInt8.toNat_inj.1 (by simp;omega)
       refine aI ?_
       refine ae (aA (o':=0) rfl rfl) ?_
       refine ae (aA (o':=0) rfl rfl) ?_
       refine dM rfl rfl (by rw[hU];decide) rfl (PW _ _) ?_
       refine aG ?_
       exact pD () trivial (Sub.cons rfl (Sub.cons rfl (Sub.cons rfl (Sub.cons rfl (Sub.cons rfl (Sub.cons rfl (Sub.nil _))))))) (fun w hw=>by rw[if_pos EW,eg _ _ EU,eg _ _ wm,eg (k+19) _ ET];exact hw)
      ·
       try simp only[Z0,Z1,Z2,Z3,Z4,Z5,Z6,Z7,Z8,Z9]at h4
       have EW: ¬x.xs.getD k 0=1:=by rw[eg _ _ EV];intro h;rw[h]at h4;simp at h4
       refine cS ?_
       exact pD () trivial (Sub.cons rfl (Sub.cons rfl (Sub.cons rfl (Sub.cons rfl (Sub.cons rfl (Sub.cons rfl (Sub.nil _))))))) (fun w hw=>by rw[if_neg EW,eg _ _ EU,eg _ _ wm,eg (k+19) _ ET];exact hw)
     ·
      rintro⟨⟩ hJ
      refine ay ?_
      refine ay ?_
      refine aI ?_
      refine ae (aP rfl) ?_
      refine aG ?_
      refine ax ?_
      refine eL ?_
      refine bK (X:=Nat) (fun zz=>[(9, .int .i64 (zz:Nat)),(0,a.sv.val),(4,t2.val),(5, .int .i64 (i:Nat)),(6,x.sv.val),(7, .int .i64 (k:Nat)),(8, .pointer (some ⟨b8,0,none⟩))]) (fun zz=>[ar b8 (aw ⟨⟨if x.xs.getD k 0=1 then 128 else 32,(x.xs.getD (k+1) 0).toNat,ll (fun j=>(x.xs.getD (k+(2+j)) 0).toNat) zz⟩,kD (x.xs.getD (k+18) 0) (x.xs.getD (k+19) 0)⟩) 68,own aw 19 t2 q2]) (fun zz=>zz≤16) (fun zz=>16 -zz) 0 (by first|omega|(simp only[];omega)) (Sub.cons rfl (Sub.cons rfl (Sub.cons rfl (Sub.cons rfl (Sub.cons rfl (Sub.cons rfl (Sub.cons rfl (Sub.nil _)))))))) (fun w hw=>by rw[PX];exact hw) ?_
      rintro n hn
      refine ay ?_
      refine ay ?_
      refine aI ?_
      refine ae (au rfl) ?_
      refine ae (bt rfl rfl rfl) ?_
      refine aG ?_
      refine ax ?_
      refine aq rfl (fun h5=> ?_) (fun h5=> ?_)
      ·
       try simp only[Z0,Z1,Z2,Z3,Z4,Z5,Z6,Z7,Z8,Z9]at h5
       refine cS ?_
       refine ax ?_
       refine ay ?_
       refine eL ?_
       refine aI ?_
       refine ae (au rfl) ?_
       refine ae (au rfl) ?_
       refine ae (au rfl) ?_
       refine ae (gk rfl rfl (by omega)) ?_
       refine ae (au rfl) ?_
       refine ae (gk rfl rfl (by omega)) ?_
       obtain⟨Kr,Ks⟩:=get_some (xs:=x.xs) (i:=((k+2)+n)) (by omega)
       refine ae (aX rfl rfl ((k+2)+n) rfl (by omega)) ?_
       refine ae (bn (j:=0) rfl ((k+2)+n) Ks rfl (by decide)) ?_
       have bH: ∀b l h,(aw ⟨⟨b,l,ll (fun j=>(x.xs.getD (k+(2+j)) 0).toNat) n⟩,h⟩).setIfInBounds (2+Int.toNat (n:Int)*1) (.int .u8 Kr.toNat)=aw ⟨⟨b,l,ll (fun j=>(x.xs.getD (k+(2+j)) 0).toNat) (n+1)⟩,h⟩:=fun b l h=>by
        rw[Int.toNat_natCast,Nat.mul_one,←eg (k+(2+n)) Kr (by rw[←Nat.add_assoc];exact Ks)]
        exact PZ (f:=(fun j=>(x.xs.getD (k+(2+j)) 0).toNat)) (by omega) (UInt8.toNat_lt _)
       refine ae (aA (o':=0) rfl rfl) ?_
       refine ae (aA (o':=2) rfl rfl) ?_
       refine ae (FC rfl rfl (by omega) (by omega)) ?_
       refine dM (o:=2+Int.toNat (n:Int)*1) rfl rfl (by rw[hU];omega) rfl (bH _ _ _) ?_
       refine aG ?_
       refine jj ?_
       refine ax ?_
       refine aI ?_
       refine ae (au rfl) ?_
       refine ae (gk rfl rfl (by omega)) ?_
       refine ae (aP rfl) ?_
       refine aG ?_
       exact bh (x:=(n)) (n+1) (by first|omega|(simp only[];omega)) (by first|omega|(simp only[];omega)) (Sub.cons rfl (Sub.cons rfl (Sub.cons rfl (Sub.cons rfl (Sub.cons rfl (Sub.cons rfl (Sub.cons rfl (Sub.nil _)))))))) (fun w hw=>ah.mem hw)
      ·
       try simp only[Z0,Z1,Z2,Z3,Z4,Z5,Z6,Z7,Z8,Z9]at h5
       obtain rfl:n=16:=by omega
       refine kj ?_
       refine eR ?_
       refine eR ?_
       refine kl ?_
       refine ax ?_
       refine oH [ar b8 (aw (jK ((x.xs.drop k).take 20))) 68,own aw 19 t2 q2] (fun w hw=>by rw[P1];exact hw) ?_
       refine aI ?_
       refine ae (au rfl) ?_
       refine ae (dW rfl) ?_
       refine mz (enc:=aw) (vals:=[_]) [(jK ((x.xs.drop k).take 20))] rfl rfl rfl (by decide) (by decide) fun AX=> ?_
       refine jG (s:=t2) (ys:=[(jK ((x.xs.drop k).take 20))]) rfl rfl (by decide) (fun w hw=>gX (s:=⟨false,AX,0,1,1,none⟩) Tryz.underlying52 (by decide) ((inferInstance:Hd _ _ ⟨false,AX,0,1,1,none⟩ aw 19 [(jK ((x.xs.drop k).take 20))]).h w hw)) (by simp only[List.length_cons,List.length_nil];omega) (by simp only[List.length_cons,List.length_nil];omega) fun U8 afa afb=> ?_
       refine ae (aP rfl) ?_
       refine aG ?_
       refine jj ?_
       refine ax ?_
       refine aI ?_
       refine ae (au rfl) ?_
       refine ae (gk rfl rfl (by omega)) ?_
       refine ae (aP rfl) ?_
       refine aG ?_
       exact bh (x:=(k,t2,q2)) (k+20,U8,q2++[jK ((x.xs.drop k).take 20)]) ⟨pre++[jK ((x.xs.drop k).take 20)],by simp[jA],by rw[db,ec];cases ir (x.xs.drop (k+20))<;>simp,by first|omega|(simp only[];omega),by first|omega|(simp only[];omega),by simp only[List.length_append,List.length_cons,List.length_nil];omega⟩ (by simp only;omega) (Sub.cons rfl (Sub.cons rfl (Sub.cons rfl (Sub.cons rfl (Sub.cons rfl (Sub.nil _)))))) (fun w hw=>ah.mem hw)
   ·
    try simp only[Z0,Z1,Z2,Z3,Z4,Z5,Z6,Z7,Z8,Z9]at h2
    refine kj ?_
    refine eR ?_
    refine eR ?_
    refine kl ?_
    refine jj ?_
    refine ax ?_
    refine aI ?_
    refine ae (au rfl) ?_
    refine ae (gk rfl rfl (by omega)) ?_
    refine ae (aP rfl) ?_
    refine aG ?_
    exact bh (x:=(i,t,q)) (i+1,t2,q2) ⟨by first|omega|(simp only[];omega),by rw[vP ex,aH,Option.bind_some,db,List.drop_eq_nil_of_le (by first|omega|(simp only[];omega)),IS];simp[jA],by first|omega|(simp only[];omega)⟩ (by simp only;omega) (Sub.cons rfl (Sub.cons rfl (Sub.cons rfl (Sub.nil _)))) (fun w hw=>ah.mem hw)
 ·
  try simp only[Z0,Z1,Z2,Z3,Z4,Z5,Z6,Z7,Z8,Z9]at h0
  refine kj ?_
  refine eR ?_
  refine eR ?_
  refine kl ?_
  refine ax ?_
  refine ay ?_
  refine ay ?_
  have gZ:fO (lx a)=some q:=by rw[←aH,List.take_of_length_le (by omega)]
  refine aI ?_
  refine ae (au rfl) ?_
  refine dQ (bX rfl trivial) ?_
  refine ae (fU rfl) ?_
  refine aG ?_
  refine ax ?_
  refine aq rfl (fun h6=> ?_) (fun h6=> ?_)
  ·
   try simp only[Z0,Z1,Z2,Z3,Z4,Z5,Z6,Z7,Z8,Z9]at h6
   refine ay ?_
   refine aI ?_
   refine ae (aP rfl) ?_
   refine ae (aP rfl) ?_
   refine aG ?_
   refine ax ?_
   refine cD ?_
   refine cw ?_
   refine an (.inl rfl) (aZ rfl (al rfl) (al rfl)) (fun w1 hw=> ?_)
   exact⟨Sv.none,by rw[(Ak gZ h6).2];rfl,trivial,by rw[(Ak gZ h6).1];exact(ah.mem hw:Mem w [] _).cz aw 19⟩
  ·
   try simp only[Z0,Z1,Z2,Z3,Z4,Z5,Z6,Z7,Z8,Z9]at h6
   refine cS ?_
   refine ax ?_
   refine ay ?_
   refine aI ?_
   refine ae (au rfl) ?_
   refine ae (aP rfl) ?_
   refine ae (aP rfl) ?_
   refine aG ?_
   refine ax ?_
   refine cD ?_
   refine an (.inl rfl) (aZ rfl (al rfl) (al rfl)) (fun w1 hw=> ?_)
   exact⟨t,by rw[(Al gZ h6).2],trivial,by rw[(Al gZ h6).1];exact hw⟩
instance U9{w0:World}{L:List aj}{a:Sl (Sl UInt8)}[ha:aS w0 L a]:bW Tryz.prog 55 w0 L [a.sv.val] (Sv) (fun zz=> .tuple #[zz.val, .int .i64 (jy (lx a))]) (fun zz=>own aw 19 zz (iu (lx a))::L) (fun zz=>True) (a.xs.length≤1000∧ ∀x∈a.xs,x.xs.length≤100000):=⟨fun hp w hw=>(U5 w a (ha.h w hw) hp).mono fun e w' ⟨x,h1,h2,h3⟩=>⟨x,h1,h2,hw.call h3⟩⟩
open Go.aL Go.Kb
theorem Va(w:World)(t:Sv)(ts:List Rt)(ids:Int)(room:Int)(ht:bM aw 19 (hp w) t ts):Calls Tryz.prog 76 #[t.val, .int .i64 ids, .int .i64 room] w fun e w'=> ∃zz:Sl (Sl UInt8),e= .returned (.tuple #[zz.sv.val, .int .i64 (jx ts ids room)])∧(lx zz=kb ts ids room)∧Mem w [Deep.ck zz] w':=by
 have xQ:Gv w t aw 19 ts:=⟨ht⟩
 refine aW (args:=[_,_,_]) Tryz.func76 rfl Tryz.ntmps76 rfl ?_
 change Cw _ _ _ _ _ [(0,t.val),(1, .int .i64 ids),(2, .int .i64 room)] []
 refine ay ?_
 refine aI ?_
 refine ae (aP rfl) ?_
 refine ae (aP rfl) ?_
 refine aG ?_
 refine ax ?_
 refine ay ?_
 refine aI ?_
 refine ae (au rfl) ?_
 refine ae (au rfl) ?_
 refine dQ (bX rfl trivial) ?_
 refine ae (aP rfl) ?_
 refine aG ?_
 refine ax ?_
 refine ay ?_
 refine ay ?_
 refine aI ?_
 refine ae (au rfl) ?_
 refine ae (bt rfl rfl rfl) ?_
 refine ae (au rfl) ?_
 refine bD rfl rfl rfl (fun hg=>(Ry.yl (au rfl))) ?_
 refine bD rfl rfl rfl (fun hg=>bX (cg (av hg rfl) dO) trivial) ?_
 refine bD rfl rfl rfl (fun hg=>(Ry.yl (fU (av hg rfl)))) ?_
 refine ae (hM rfl rfl rfl) ?_
 refine aG ?_
 refine ax ?_
 refine aq rfl (fun h0=> ?_) (fun h0=> ?_)
 ·
  try simp only[Z0,Z1,Z2,Z3,Z4,Z5,Z6,Z7,Z8,Z9]at h0
  refine ay ?_
  refine aI ?_
  refine ae (aP rfl) ?_
  refine ae (aP rfl) ?_
  refine aG ?_
  refine ax ?_
  refine cD ?_
  refine cw ?_
  refine an (.inl rfl) (aZ rfl (al rfl) (al rfl)) (fun w1 hw=> ?_)
  exact⟨⟨Sv.none,[]⟩,by rw[(IU h0).1];rfl,(IU h0).2.symm,Mem.y9 (enc:=bP) (c:=1) (ah.mem hw)⟩
 ·
  try simp only[Z0,Z1,Z2,Z3,Z4,Z5,Z6,Z7,Z8,Z9]at h0
  obtain⟨A4,EX⟩:=h0
  have hm:=DD A4
  obtain⟨k,hk⟩: ∃k:Nat,ids=k:=⟨ids.toNat,by omega⟩
  obtain⟨n,hn⟩: ∃n:Nat,room/20=n:=⟨(room/20).toNat,by omega⟩
  have oc:ids*(room/20)=((k*n:Nat):Int):=by rw[hk,hn,Int.natCast_mul]
  have ek:ids.toNat=k:=by omega
  have en:(room/20).toNat=n:=by omega
  refine cS ?_
  refine ax ?_
  refine ay ?_
  refine ay ?_
  refine aI ?_
  refine ae (au rfl) ?_
  refine ae (iT rfl) ?_
  refine ae (au rfl) ?_
  refine ae (bt rfl rfl rfl) ?_
  refine aG ?_
  refine ax ?_
  refine aq rfl (fun h1=> ?_) (fun h1=> ?_)
  ·
   try simp only[Z0,Z1,Z2,Z3,Z4,Z5,Z6,Z7,Z8,Z9]at h1
   refine ay ?_
   refine aI ?_
   refine ae (aP rfl) ?_
   refine ae (aP rfl) ?_
   refine aG ?_
   refine ax ?_
   refine cD ?_
   refine cw ?_
   refine an (.inl rfl) (aZ rfl (al rfl) (al rfl)) (fun w1 hw=> ?_)
   exact⟨⟨Sv.none,[]⟩,by rw[(IV A4 EX h1).1];rfl,(IV A4 EX h1).2.symm,Mem.y9 (enc:=bP) (c:=1) (ah.mem hw)⟩
  ·
   try simp only[Z0,Z1,Z2,Z3,Z4,Z5,Z6,Z7,Z8,Z9]at h1
   have hE:=IW A4 EX h1
   rw[ek,en]at hE
   have sE:ts.length≤k*n:=by omega
   have hl:=ht.bd
   refine cS ?_
   refine ax ?_
   refine ay ?_
   refine aI ?_
   refine ae (au rfl) ?_
   refine Mp (τ:=UInt8) (n:=k) (cap:=k) rfl rfl (by omega) (by omega) (by omega) (by omega) (by omega) fun da Vb=> ?_
   refine ae (aP rfl) ?_
   refine aG ?_
   refine ax ?_
   refine ay ?_
   refine ay ?_
   refine aI ?_
   refine ae (au rfl) ?_
   refine ae (iT rfl) ?_
   refine ae (au rfl) ?_
   refine aG ?_
   refine ax ?_
   refine eL ?_
   refine bK (X:=Nat×Sl (Sl UInt8)) (fun zz=>[(31, .int .i64 (zz.1:Nat)),(9,zz.2.sv.val),(2, .int .i64 room),(29,t.val),(30, .int .i64 (ts.length:Nat))]) (fun zz=>[Deep.ck zz.2]) (fun zz=>zz.1≤ts.length∧lx zz.2=nk (ts.take zz.1) k n) (fun zz=>ts.length -zz.1) (0,da) ⟨by first|omega|(simp only[];omega),by rw[PO];show List.map _ _=_;rw[Vb];simp⟩ (Sub.cons rfl (Sub.cons rfl (Sub.cons rfl (Sub.cons rfl (Sub.cons rfl (Sub.nil _)))))) (fun w hw=>ah.mem hw) ?_
   rintro⟨i,a⟩ ⟨bb,aH⟩
   dsimp only
   simp only at bb aH
   refine ay ?_
   refine aI ?_
   refine ae (bt rfl rfl rfl) ?_
   refine aG ?_
   refine ax ?_
   refine ay ?_
   refine aq rfl (fun h2=> ?_) (fun h2=> ?_)
   ·
    try simp only[Z0,Z1,Z2,Z3,Z4,Z5,Z6,Z7,Z8,Z9]at h2
    refine cS ?_
    refine ax ?_
    refine ay ?_
    refine eL ?_
    refine ay ?_
    refine aI ?_
    refine ae (au rfl) ?_
    obtain⟨uE,EY⟩:=get_some (xs:=ts) (i:=i) (by omega)
    refine ae (aX rfl rfl i rfl (by omega)) ?_
    refine ae (fH rfl i EY rfl) ?_
    refine bx fun nu=> ?_
    refine ae (aP rfl) ?_
    refine pC rfl rfl ?_
    refine aG ?_
    refine ax ?_
    refine ay ?_
    refine aI ?_
    refine ae (au rfl) ?_
    refine ae (au rfl) ?_
    refine ae (gV rfl rfl (by omega) (by omega)) ?_
    refine ae (gV rfl rfl (by omega) (by omega)) ?_
    refine ae (aP rfl) ?_
    refine aG ?_
    refine ax ?_
    have bB:i/n<k:=Nat.div_lt_of_lt_mul (by rw[Nat.mul_comm];omega)
    have EZ:i/n<a.xs.length:=by rw[←rM,aH,sA];exact bB
    obtain⟨x,hx⟩:=get_some (xs:=a.xs) (i:=i/n) EZ
    have ex:(lx a)[i/n]? =some x.xs:=by simp[lx,hx]
    have rn:((i:Nat):Int)/(room/20)=((i/n:Nat):Int):=by rw[hn];exact(Int.natCast_ediv i n).symm
    have zM:x.xs.length≤240:=by
     rw[aH,nk,List.getElem?_map]at ex
     obtain⟨j,_,hj⟩:=Option.map_eq_some_iff.1 ex
     have:=IQ (ts.take i) n j
     rw[hj]at this;omega
    refine oH (own bP 1 a.sv a.xs::own aJ 1 x.sv x.xs::ar nu (aw uE) 68::(a.xs.eraseIdx (i/n)).map Deep.ck) (fun w hw=>(Tr.Mq (B:=[ar nu (aw uE) 68]) hx).mem hw) ?_
    refine FL 9 [7] [own bP 1 a.sv a.xs,ar nu (aw uE) 68] (fun w hw=>ah.mem hw) (by kernel_rfl) (by kernel_rfl) ?_
    simp only[List.take_succ_cons,List.take_zero]
    refine aT (au rfl) ?_
    refine aT (au rfl) ?_
    refine aT (au rfl) ?_
    refine aT (au rfl) ?_
    refine aT (aX rfl rfl (i/n) rn EZ) ?_
    refine aT (bn (j:=0) rfl (i/n) hx rfl (by decide)) ?_
    have Vc:Mb x _:=⟨List.mem_of_getElem? hx⟩
    refine aT (dW rfl) ?_
    refine LG ?_
    refine aT (aX rfl rfl (i/n) rn EZ) ?_
    refine rC ?_ (fun _ hw=>ah.mem hw)
    refine Mg rfl rfl (by omega) (fun _ w hw=>ah.mem hw) fun v8 SV=> ?_
    refine rD ?_
    simp only[List.drop_succ_cons,List.drop_zero]
    refine zd (k:=i/n) ⟨v8,x.xs++gH uE⟩ (by kernel_rfl) rfl rfl rfl hx ?_
    refine aG ?_
    refine jj ?_
    refine ax ?_
    refine aI ?_
    refine ae (gk rfl rfl (by omega)) ?_
    refine ae (au rfl) ?_
    refine aG ?_
    exact bh (x:=(i,a)) (i+1,⟨a.sv,a.xs.set (i/n) ⟨v8,x.xs++gH uE⟩⟩) ⟨by first|omega|(simp only[];omega),by rw[P2,PN (by first|omega|(simp only[];omega)) EY (by rw[←aH];exact ex),←aH];rfl⟩ (by first|omega|(simp only[];omega)) (Sub.cons rfl (Sub.cons rfl (Sub.cons rfl (Sub.cons rfl (Sub.cons rfl (Sub.nil _)))))) (fun w hw=>ah.mem ((Tr.Mr (B:=[ar nu (aw uE) 68]) (enc:=aJ) (c:=1) (by rw[←rM,aH,sA];exact bB)).mem hw))
   ·
    try simp only[Z0,Z1,Z2,Z3,Z4,Z5,Z6,Z7,Z8,Z9]at h2
    refine kj ?_
    refine eR ?_
    refine eR ?_
    refine kl ?_
    refine ax ?_
    refine ay ?_
    refine aI ?_
    refine ae (au rfl) ?_
    refine ae (aP rfl) ?_
    refine ae (aP rfl) ?_
    refine aG ?_
    refine ax ?_
    refine cD ?_
    refine an (.inl rfl) (aZ rfl (al rfl) (al rfl)) (fun w1 hw=> ?_)
    exact⟨a,by rw[hE.1],by rw[aH,hE.2,List.take_of_length_le (by omega)],hw⟩
instance afc{w0:World}{L:List aj}{t:Sv}{ts:List Rt}{ids:Int}{room:Int}[ht:cl w0 L aw 19 t ts]:bW Tryz.prog 76 w0 L [t.val, .int .i64 ids, .int .i64 room] (Sl (Sl UInt8)) (fun zz=> .tuple #[zz.sv.val, .int .i64 (jx ts ids room)]) (fun zz=>Deep.ck zz::L) (fun zz=>lx zz=kb ts ids room) (True):=⟨fun hp w hw=>(Va w t ts ids room (ht.h w hw)).mono fun e w' ⟨x,h1,h2,h3⟩=>⟨x,h1,h2,hw.call h3⟩⟩
open Go.aL Go.Kb
open Go.RowKit
instance:eC Tryz.prog 54 (.agg (bQ iw)):=⟨by kernel_rfl⟩
theorem A5(v:bI)(t:Sl Rt)(w:World):(Instr.build 54 #[(0, .agg (bo v)),(1,t.sv.val)]).run Tryz.prog w= .ok (.agg (bQ ⟨v,t⟩)) w:=by
 obtain⟨s,xs⟩:=t
 obtain⟨⟨a1,a2,⟨a3,a4⟩,a5,a6,⟨a7,a8⟩⟩,⟨a9,Vd⟩,Ve,Vf⟩:=v
 unfold bQ
 obtain⟨e,b,o,l,c,p⟩:=s
 obtain⟨e3,b3,o3,l3,c3,p3⟩:=a3
 obtain⟨e7,b7,o7,l7,c7,p7⟩:=a7
 obtain⟨e9,b9,o9,l9,c9,p9⟩:=a9
 cases e<;>cases e3<;>cases e7<;>cases e9<;>kernel_rfl
theorem Vg(w:World)(b:Int)(p:Int)(s:Int):Calls Tryz.prog 58 #[.int .i64 b, .int .i64 p, .int .i64 s] w fun e w'=>e= .returned (.int .i64 (mh b p s))∧Mem w [] w':=by
 have ER:=QP b p
 have Az:=DU s
 refine aW (args:=[_,_,_]) Tryz.func58 rfl Tryz.ntmps58 rfl ?_
 change Cw _ _ _ _ _ [(0, .int .i64 b),(1, .int .i64 p),(2, .int .i64 s)] []
 refine Gc ?_
 refine Gs ?_
 refine Gc ?_
 iterate 3 refine Gs ?_
 refine ae (gV rfl rfl (by omega) (by omega)) ?_
 iterate 2 refine Gs ?_
 refine ae (BC rfl rfl) ?_
 refine Gs ?_
 refine Gc ?_
 refine an (.inl rfl) (aK rfl (al rfl)) (fun w1 hw=> ?_)
 exact⟨congrArg (fun b=>Ending.returned (Value.int .i64 b)) ((by rw[mh])),ah.mem hw⟩
instance afd{w0:World}{L:List aj}{b:Int}{p:Int}{s:Int}:bU Tryz.prog 58 w0 L [.int .i64 b, .int .i64 p, .int .i64 s] (.int .i64 (mh b p s)) (True):=⟨fun hp w hw=>Vg w b p s⟩
theorem Vh(w:World)(b:Int)(p:Int)(s:Int):Calls Tryz.prog 24 #[.int .i64 b, .int .i64 p, .int .i64 s] w fun e w'=>e= .returned (.int .i64 (qk b p s))∧Mem w [] w':=by
 refine aW (args:=[_,_,_]) Tryz.func24 rfl Tryz.ntmps24 rfl ?_
 change Cw _ _ _ _ _ [(0, .int .i64 b),(1, .int .i64 p),(2, .int .i64 s)] []
 refine Gc ?_
 refine Gs ?_
 refine Gc ?_
 iterate 8 refine Gs ?_
 refine Gc ?_
 refine an (.inl rfl) (aK rfl (al rfl)) (fun w1 hw=> ?_)
 exact⟨congrArg (fun b=>Ending.returned (Value.int .i64 b)) ((by rw[qk])),ah.mem hw⟩
instance afe{w0:World}{L:List aj}{b:Int}{p:Int}{s:Int}:bU Tryz.prog 24 w0 L [.int .i64 b, .int .i64 p, .int .i64 s] (.int .i64 (qk b p s)) (True):=⟨fun hp w hw=>Vh w b p s⟩
theorem Vi(w:World)(c:Cp)(hc:Deep.bk (hp w) c):Calls Tryz.prog 72 #[.agg (aB c)] w fun e w'=>e= .returned (.int .i64 (fe (cv c)))∧Mem w [] w':=by
 have gy:bT w c:=⟨hc⟩
 refine aW (args:=[_]) Tryz.func72 rfl Tryz.ntmps72 rfl ?_
 change Cw _ _ _ _ _ [(0, .agg (aB c))] []
 refine Gc ?_
 refine bL rfl fun b1=> ?_
 refine Gs ?_
 refine Gc ?_
 iterate 9 refine Gs ?_
 refine Gc ?_
 refine an (.inl rfl) (aK rfl (al rfl)) (fun w1 hw=> ?_)
 exact⟨congrArg (fun b=>Ending.returned (Value.int .i64 b)) ((by simp only[fe,cv,dH])),ah.mem hw⟩
instance aff{w0:World}{L:List aj}{c:Cp}[hc:aS w0 L c]:bU Tryz.prog 72 w0 L [.agg (aB c)] (.int .i64 (fe (cv c))) (True):=⟨fun hp w hw=>Vi w c (hc.h w hw)⟩
theorem Vj(w:World)(c:Cp)(hc:Deep.bk (hp w) c):Calls Tryz.prog 70 #[.agg (aB c)] w fun e w'=>e= .returned (.int .i64 (kO (cv c)))∧Mem w [] w':=by
 have gy:bT w c:=⟨hc⟩
 refine aW (args:=[_]) Tryz.func70 rfl Tryz.ntmps70 rfl ?_
 change Cw _ _ _ _ _ [(0, .agg (aB c))] []
 refine Gc ?_
 refine bL rfl fun b1=> ?_
 refine Gs ?_
 refine Gc ?_
 iterate 9 refine Gs ?_
 refine Gc ?_
 refine an (.inl rfl) (aK rfl (al rfl)) (fun w1 hw=> ?_)
 exact⟨congrArg (fun b=>Ending.returned (Value.int .i64 b)) ((by simp only[kO,cv,dH])),ah.mem hw⟩
instance afg{w0:World}{L:List aj}{c:Cp}[hc:aS w0 L c]:bU Tryz.prog 70 w0 L [.agg (aB c)] (.int .i64 (kO (cv c))) (True):=⟨fun hp w hw=>Vj w c (hc.h w hw)⟩
open Go.aL Go.Kb
open Go.RowKit
theorem Vk(w:World)(v:bI)(id:Nat)(hv:Deep.bk (hp w) v)(ba:bg (cv v.ai)=true∧id<v.at_.xs.length∧ ∀y∈v.at_.xs,0≤y∧y≤65535∧(y≠0→nQ (cv v.ai) (y -1)=true)):Calls Tryz.prog 100 #[.agg (bo v), .int .i64 (id:Nat)] w fun e w'=> ∃zz:Sv,e= .returned (zz.val)∧(True)∧Mem w [own aJ 1 zz (iz (cv v.ai) (v.at_.xs.getD id 0))] w':=by
 have ur:bT w v:=⟨hv⟩
 obtain⟨hk,su,iG⟩:=ba
 obtain⟨y,hy⟩:=get_some (xs:=v.at_.xs) (i:=id) su
 have iA:v.at_.xs.getD id 0=y:=oW hy
 obtain⟨qA,xL,gh⟩:=iG y (List.mem_of_getElem? hy)
 refine aW (args:=[_,_]) Tryz.func100 rfl Tryz.ntmps100 rfl ?_
 change Cw _ _ _ _ _ [(0, .agg (bo v)),(1, .int .i64 (id:Nat))] []
 refine Gc ?_
 refine bL rfl fun b2=> ?_
 refine Gs ?_
 refine Gc ?_
 iterate 3 refine Gs ?_
 refine ae (aX rfl rfl id rfl (by omega)) ?_
 refine ae (bn (j:=0) rfl id hy rfl (by decide)) ?_
 iterate 2 refine Gs ?_
 refine Gc ?_
 iterate 2 refine Gs ?_
 refine Gc ?_
 refine aq rfl (fun h0=> ?_) (fun h0=> ?_)
 ·
  replace h0:=bz h0
  have hE:(iz (cv v.ai) (v.at_.xs.getD id 0))=[]:=by rw[iA,iz,if_pos (by omega)]
  refine Gc ?_
  refine Gs ?_
  refine Gc ?_
  refine an (.inl rfl) (aK rfl (al rfl)) (fun w1 hw=> ?_)
  exact⟨Sv.none,rfl,trivial,by rw[hE];exact Mem.cz aJ 1 (ah.mem hw:Mem w [] _)⟩
 ·
  replace h0:=bz h0
  have h1y:1≤y:=by omega
  obtain⟨g1,g2,g3⟩:=tV.1 (gh (by omega))
  have cO:=dH v.ai.blocks.xs
  have fB:=ik.1 (dE.1 hk).1
  simp only[cv,cO]at fB
  have q7:0≤((y -1)/v.ai.ag):=Int.ediv_nonneg (by omega) (by omega)
  have mL:0≤((y -1)%v.ai.ag):=Int.emod_nonneg _ (by omega)
  have sL:((y -1)%v.ai.ag)<v.ai.ag:=Int.emod_lt_of_pos _ (by omega)
  have n9:=rZ (c:=v.ai) (b:=((y -1)/v.ai.ag))
  change 2≤((y -1)/v.ai.ag)at g1
  change((y -1)/v.ai.ag)<((fm v.ai.blocks.xs).length:Int)at g2
  rw[cO]at g2
  obtain⟨B,hB⟩:=get_some (xs:=v.ai.blocks.xs) (i:=((y -1)/v.ai.ag).toNat) (by omega)
  have pg:Mb B v.ai.blocks:=⟨List.mem_of_getElem? hB⟩
  have dx:bv B=aO (cv v.ai) ((y -1)/v.ai.ag):=by rw[←n9];simp[List.getD,hB]
  have eu:=eM.1 ((dE.1 hk).2.2.2.2 (bv B) (List.mem_of_getElem? (fK hB)))
  have fA:=fk B.ag.xs
  have JD:(B.ag.xs.length:Int)=v.ai.ag:=by have:=eu.1;simp only[bv,cv,fA]at this;exact this
  obtain⟨z,hz⟩:=get_some (xs:=B.ag.xs) (i:=((y -1)%v.ai.ag).toNat) (by omega)
  have n5:Mb z B.ag:=⟨List.mem_of_getElem? hz⟩
  have ln:r9 (cv v.ai) (y -1)=z.xs:=by
   show(aO (cv v.ai) ((y -1)/v.ai.ag)).ag.getD ((y -1)%v.ai.ag).toNat []=z.xs
   rw[←dx]
   simp[bv,List.getD,ib hz]
  have hI:(iz (cv v.ai) (v.at_.xs.getD id 0))=jI (cv v.ai) y:=by rw[iA,iz,if_neg (by omega)]
  refine Gc ?_
  refine oN [18,22,23,2022,4018] [[],[],[],[],[],[],[],[],[],[],[],[],[],[],[],[],[],[],[],[18],[18],[18],[],[18,22],[18,22,23]] [0,1,2,3,4,5,6,7,8,9,10,11,12,13,14,15,16,17,18,19,20,21,22,23,24] [ar b2 (bo v) 29] [(22,kF Tryz.prog 110)] (by kernel_rfl) (fun _ hw=>ah.mem hw) (by kernel_rfl) (by kernel_rfl) ?_
  refine ak rfl (aA (o':=0) rfl rfl) ?_
  refine ak rfl (aA (o':=2) rfl rfl) ?_
  refine ak rfl (bl rfl) ?_
  refine ak rfl (au rfl) ?_
  refine ak rfl (aA (o':=0) rfl rfl) ?_
  refine ak rfl (aA (o':=0) rfl rfl) ?_
  refine ak rfl (bl rfl) ?_
  refine ak rfl (gV rfl rfl (by omega) (by omega)) ?_
  refine ak rfl (aX rfl rfl (((y -1)/v.ai.ag).toNat) (by omega) (by omega)) ?_
  refine ak rfl (aA rfl rfl) ?_
  refine ak rfl (bn (j:=0) rfl (((y -1)/v.ai.ag).toNat) hB rfl (by decide)) ?_
  refine ak rfl (au rfl) ?_
  refine ak rfl (aA (o':=0) rfl rfl) ?_
  refine ak rfl (aA (o':=0) rfl rfl) ?_
  refine ak rfl (bl rfl) ?_
  refine ak rfl (ox rfl rfl (by omega) (by omega)) ?_
  refine ak rfl (aX rfl rfl (((y -1)%v.ai.ag).toNat) (by omega) (by omega)) ?_
  refine ak rfl (bn (j:=0) rfl (((y -1)%v.ai.ag).toNat) hz rfl (by decide)) ?_
  refine rS rfl rfl trivial (fun e x w hw=>ah.mem hw) (Cert.one (i:=22) rfl rfl rfl jZ (Cert.none rfl)) fun yf J6=>⟨fun _ hw=>ah.mem hw,?_⟩
  have e1:yf.body.xs=(bm z.xs).1.body:=congrArg PV.body J6
  refine ak rfl (au rfl) ?_
  refine ak rfl (aU (v:= .agg (bZ yf)) rfl rfl) ?_
  refine ak rfl (aU (v:= .int .i64 ((bm z.xs).2)) rfl rfl) ?_
  refine mZ (m:=kF Tryz.prog 110) rfl rfl jZ (Cert.none rfl) fun b6=> ?_
  change Ln _ _ _ _ _ _ _ _ (cm _ _ (.pointer (some ⟨b6,0,none⟩))) (ar b6 (bZ gF) 110::_) _
  refine cK rfl (km rfl rfl ⟨fun _ hw=>ah.mem hw,?_⟩)
  refine ak rfl (aP rfl) ?_
  refine Gc ?_
  iterate 2 refine Gs ?_
  refine Gc ?_
  refine aq rfl (fun h1=> ?_) (fun h1=> ?_)
  ·
   replace h1:=bz h1
   have hE:(iz (cv v.ai) (v.at_.xs.getD id 0))=[]:=by rw[hI,jI,ln,if_neg h1]
   refine Gc ?_
   refine Gs ?_
   refine Gc ?_
   refine an (.inl rfl) (aK rfl (al rfl)) (fun w1 hw=> ?_)
   exact⟨Sv.none,rfl,trivial,by rw[hE];exact Mem.cz aJ 1 (ah.mem hw:Mem w [] _)⟩
  ·
   replace h1:=bz h1
   have oq:(bm z.xs).2=0:=h1
   have hE:(iz (cv v.ai) (v.at_.xs.getD id 0))=yf.body.xs:=by rw[hI,jI,ln,if_pos oq,e1]
   refine Gc ?_
   iterate 3 refine Gs ?_
   refine Gc ?_
   refine an (.inl rfl) (aK rfl (al rfl)) (fun w1 hw=> ?_)
   exact⟨yf.body.sv,rfl,trivial,by rw[hE];exact ah.mem hw⟩
instance afh{w0:World}{L:List aj}{v:bI}{id:Nat}[hv:aS w0 L v]:bW Tryz.prog 100 w0 L [.agg (bo v), .int .i64 (id:Nat)] (Sv) (fun zz=>zz.val) (fun zz=>own aJ 1 zz (iz (cv v.ai) (v.at_.xs.getD id 0))::L) (fun zz=>True) (bg (cv v.ai)=true∧id<v.at_.xs.length∧ ∀y∈v.at_.xs,0≤y∧y≤65535∧(y≠0→nQ (cv v.ai) (y -1)=true)):=⟨fun hp w hw=>(Vk w v id (hv.h w hw) hp).mono fun e w' ⟨x,h1,h2,h3⟩=>⟨x,h1,h2,hw.call h3⟩⟩
open Go.aL Go.Kb
open Go.RowKit
theorem Vl(w:World)(s:Sl (Sl UInt8))(hs:Deep.bk (hp w) s)(ba:s.xs.length≤1000000):Calls Tryz.prog 109 #[s.sv.val] w fun e w'=> ∃zz:Sv,e= .returned (zz.val)∧(True)∧Mem w [own (bP (τ:=UInt8)) 1 zz s.xs] w':=by
 have uj:bT w s:=⟨hs⟩
 refine aW (args:=[_]) Tryz.func109 rfl Tryz.ntmps109 rfl ?_
 change Cw _ _ _ _ _ [(0,s.sv.val)] []
 refine Gc ?_
 refine Gs ?_
 refine Gc ?_
 refine Gs ?_
 refine ae (qC Tryz.underlying46 rfl) ?_
 refine Gc ?_
 refine aq rfl (fun h0=> ?_) (fun h0=> ?_)
 ·
  replace h0:=bz h0
  have e0:s.xs=[]:=List.length_eq_zero_iff.1 (by have:=hs.1.ok.nil h0;have:=hs.1.len;omega)
  refine Gc ?_
  refine Gs ?_
  refine Gc ?_
  refine an (.inl rfl) (aK rfl (al rfl)) (fun w1 hw=> ?_)
  exact⟨Sv.none,rfl,trivial,by rw[e0];exact(ah.mem hw:Mem w [] _).cz (bP (τ:=UInt8)) 1⟩
 ·
  replace h0:=bz h0
  refine Gc ?_
  refine qD (bP (τ:=UInt8)) fun b5=> ?_
  refine Gs ?_
  refine jG (s:=⟨false,b5,0,0,0,none⟩) (enc:=(bP (τ:=UInt8))) (ys:=s.xs) rfl rfl (by decide) (fun w hw=>gX (s:=s.sv) Tryz.underlying46 (by decide) ((inferInstance:cl _ _ (bP (τ:=UInt8)) 1 s.sv s.xs).h w hw)) (by simp only[List.length_nil];omega) (by simp only[List.length_nil];omega) fun s7 uk sD=> ?_
  refine Gs ?_
  refine Gc ?_
  refine an (.inl rfl) (aK rfl (al rfl)) (fun w1 hw=> ?_)
  exact⟨s7,rfl,trivial,by rw[List.nil_append]at hw;exact ah.mem hw⟩
instance afi{w0:World}{L:List aj}{s:Sl (Sl UInt8)}[hs:aS w0 L s]:bW Tryz.prog 109 w0 L [s.sv.val] (Sv) (fun zz=>zz.val) (fun zz=>own (bP (τ:=UInt8)) 1 zz s.xs::L) (fun zz=>True) (s.xs.length≤1000000):=⟨fun hp w hw=>(Vl w s (hs.h w hw) hp).mono fun e w' ⟨x,h1,h2,h3⟩=>⟨x,h1,h2,hw.call h3⟩⟩
theorem Vm(w:World)(c:Cp)(hc:Deep.bk (hp w) c)(ba:dK c):Calls Tryz.prog 71 #[.agg (aB c)] w fun e w'=> ∃zz:Cp,e= .returned (.agg (aB zz))∧(cv zz=cv c)∧Mem w [fz zz] w':=by
 have gy:bT w c:=⟨hc⟩
 obtain⟨kQ,kr,np⟩:=ba
 refine aW (args:=[_]) Tryz.func71 rfl Tryz.ntmps71 rfl ?_
 change Cw _ _ _ _ _ [(0, .agg (aB c))] []
 refine Gc ?_
 refine bL rfl fun b1=> ?_
 refine bx fun b2=> ?_
 refine Gc ?_
 iterate 2 refine Gs ?_
 refine bp rfl (by omega) fun x9 vW=> ?_
 refine Gs ?_
 refine dM (cs':=aB (⟨c.ag,c.size,⟨x9,c.blocks.xs⟩,c.ops,c.off,c.bc⟩:Cp)) rfl rfl (by show 2<6;decide) (by first|rfl|exact Sv.one _) rfl ?_
 refine Gc ?_
 iterate 4 refine Gs ?_
 refine Gc ?_
 refine bK (X:=Nat×List Bk) (fun zz=>[(14, .int .i64 (zz.1:Nat)),(1, .pointer (some ⟨b1,0,none⟩)),(2, .pointer (some ⟨b2,0,none⟩)),(12,x9.val),(13, .int .i64 (c.blocks.xs.length:Nat))]) (fun zz=>[own bN 4 x9 zz.2,aj.all ((zz.2.take zz.1).map fun b:Bk=>fz b.ag),ar b2 (aB ep) 25,ar b1 (aB (⟨c.ag,c.size,⟨x9,zz.2⟩,c.ops,c.off,c.bc⟩:Cp)) 25]) (fun zz=>zz.1≤c.blocks.xs.length∧zz.2.length=c.blocks.xs.length∧fm zz.2=fm c.blocks.xs∧ ∀j,zz.1≤j→zz.2[j]? =c.blocks.xs[j]?) (fun zz=>c.blocks.xs.length -zz.1) (0,c.blocks.xs) ⟨Nat.zero_le _,rfl,rfl,fun _ _=>rfl⟩ (Sub.cons rfl (Sub.cons rfl (Sub.cons rfl (Sub.cons rfl (Sub.cons rfl (Sub.nil _)))))) (fun w hw=>by
  simp only[List.take_zero,List.map_nil];exact ah.mem (Mem.tM hw)) ?_
 rintro⟨i,zs⟩ ⟨bb,aH,bu,cJ⟩
 dsimp only
 simp only at bb aH bu cJ
 refine Gc ?_
 refine Gs ?_
 refine Gc ?_
 refine aq rfl (fun h0=> ?_) (fun h0=> ?_)
 ·
  replace h0:=bz h0
  obtain⟨z,hz⟩:=get_some (xs:=zs) (i:=i) (by omega)
  have n5:Mb z c.blocks:=⟨List.mem_of_getElem? (by rw[←cJ i (Nat.le_refl _)];exact hz)⟩
  have eJ:=np z n5.h
  obtain⟨Vn,afj⟩:=eJ
  rw[fk]at Vn
  refine Gc ?_
  refine Gs ?_
  refine ae (aX rfl rfl i rfl (by omega)) ?_
  refine ae (fH rfl i hz rfl) ?_
  refine bx fun b4=> ?_
  iterate 2 refine Gs ?_
  refine Gc ?_
  iterate 2 refine Gs ?_
  refine bp rfl (by omega) fun iC Et=> ?_
  refine Gs ?_
  refine Gc ?_
  iterate 3 refine Gs ?_
  refine Gc ?_
  refine bK (X:=Nat×List (Sl UInt8)) (fun zz=>[(24, .int .i64 (zz.1:Nat)),(5,iC.val),(1, .pointer (some ⟨b1,0,none⟩)),(2, .pointer (some ⟨b2,0,none⟩)),(3, .int .i64 (i:Nat)),(12,x9.val),(13, .int .i64 (c.blocks.xs.length:Nat)),(14, .int .i64 (i:Nat)),(23, .int .i64 (z.ag.xs.length:Nat))]) (fun zz=>[own (bP (τ:=UInt8)) 1 iC zz.2,aj.all ((zz.2.take zz.1).map fun b:Sl UInt8=>fz b),ar b4 (bN z) 48,own bN 4 x9 zs,aj.all ((zs.take i).map fun b:Bk=>fz b.ag),ar b2 (aB ep) 25,ar b1 (aB (⟨c.ag,c.size,⟨x9,zs⟩,c.ops,c.off,c.bc⟩:Cp)) 25]) (fun zz=>zz.1≤z.ag.xs.length∧zz.2.length=z.ag.xs.length∧aE zz.2=aE z.ag.xs∧ ∀k,zz.1≤k→zz.2[k]? =z.ag.xs[k]?) (fun zz=>z.ag.xs.length -zz.1) (0,z.ag.xs) ⟨Nat.zero_le _,rfl,rfl,fun _ _=>rfl⟩ (Sub.cons rfl (Sub.cons rfl (Sub.cons rfl (Sub.cons rfl (Sub.cons rfl (Sub.cons rfl (Sub.cons rfl (Sub.cons rfl (Sub.cons rfl (Sub.nil _)))))))))) (fun w hw=>by
   simp only[List.take_zero,List.map_nil];exact ah.mem (Mem.tM hw)) ?_
  rintro⟨j,qs⟩ ⟨jA,db,gM,jQ⟩
  dsimp only
  simp only at jA db gM jQ
  refine Gc ?_
  refine Gs ?_
  refine Gc ?_
  refine aq rfl (fun h1=> ?_) (fun h1=> ?_)
  ·
   replace h1:=bz h1
   obtain⟨y,hy⟩:=get_some (xs:=qs) (i:=j) (by omega)
   have yu:z.ag.xs[j]? =some y:=by rw[←jQ j (Nat.le_refl _)];exact hy
   have sM:Mb y z.ag:=⟨List.mem_of_getElem? yu⟩
   have sE:=xq (ib yu)
   have fA:=xr (aE z.ag.xs) (j+1)
   have Vo:y.xs.length≤140737488355328:=by rw[sE]at fA;omega
   refine Gc ?_
   iterate 2 refine Gs ?_
   iterate 2 refine Gi ?_
   refine zx (s:=iC) (enc:=bP (τ:=UInt8)) (c:=1) (xs:=qs) inferInstance (by omega) fun afk afl Vp afm=> ?_
   refine Gi ?_
   iterate 4 refine Gs ?_
   refine ae (aX rfl rfl j rfl (by omega)) ?_
   refine ae (bn (j:=0) rfl j hy rfl (by decide)) ?_
   refine bp rfl Vo fun jg sQ=> ?_
   obtain⟨uE,EY⟩:=get_some (xs:=qs) (i:=j) (by omega)
   refine ae (jk (s:=iC) (i:=j) rfl rfl rfl Vp (by omega)) ?_
   refine zd (s:=iC) (xs:=qs) (k:=j) (a:=y) (⟨jg,y.xs⟩:Sl UInt8) (by kernel_rfl) rfl rfl rfl hy ?_
   refine Gc ?_
   iterate 2 refine Gs ?_
   refine Gi ?_
   exact bh (x:=(j,qs)) (j+1,qs.set j (⟨jg,y.xs⟩:Sl UInt8)) ⟨by first|omega|(simp only[];omega),by rw[List.length_set];exact db,by rw[aE,List.map_set,←aE,gM];exact vn (z:=y.xs) (ib yu),fun k hk=>by rw[List.getElem?_set_ne (by first|omega|(simp only[];omega))];exact jQ k (by first|omega|(simp only[];omega))⟩ (by simp only;omega) (Sub.cons rfl (Sub.cons rfl (Sub.cons rfl (Sub.cons rfl (Sub.cons rfl (Sub.cons rfl (Sub.cons rfl (Sub.cons rfl (Sub.cons rfl (Sub.nil _)))))))))) (fun w hw=>by
    have h1:=CH (a:=(⟨jg,y.xs⟩:Sl UInt8)) (ah.mem hw:Mem _ (own aJ 1 jg y.xs::[own (bP (τ:=UInt8)) 1 iC (qs.set j (⟨jg,y.xs⟩:Sl UInt8)),aj.all ((qs.take j).map fun b:Sl UInt8=>fz b),ar b4 (bN z) 48,own bN 4 x9 zs,aj.all ((zs.take i).map fun b:Bk=>fz b.ag),ar b2 (aB ep) 25,ar b1 (aB (⟨c.ag,c.size,⟨x9,zs⟩,c.ops,c.off,c.bc⟩:Cp)) 25]) _)
    have h3:=Mem.vm (ah.mem h1:Mem _ (fz (⟨jg,y.xs⟩:Sl UInt8)::aj.all ((qs.take j).map fun b:Sl UInt8=>fz b)::[own (bP (τ:=UInt8)) 1 iC (qs.set j (⟨jg,y.xs⟩:Sl UInt8)),ar b4 (bN z) 48,own bN 4 x9 zs,aj.all ((zs.take i).map fun b:Bk=>fz b.ag),ar b2 (aB ep) 25,ar b1 (aB (⟨c.ag,c.size,⟨x9,zs⟩,c.ops,c.off,c.bc⟩:Cp)) 25]) _)
    rw[CR (z':=(⟨jg,y.xs⟩:Sl UInt8)) hy]at h3
    exact ah.mem h3)
  ·
   replace h1:=bz h1
   obtain rfl:j=qs.length:=by omega
   rw[List.take_of_length_le (Nat.le_refl _)]at*
   iterate 5 refine Gi ?_
   refine zx (s:=x9) (enc:=bN) (c:=4) (xs:=zs) inferInstance (by omega) fun hn9 hs9 Vq hl9=> ?_
   refine Gi ?_
   iterate 4 refine Gs ?_
   obtain⟨Vr,Vs⟩:=get_some (xs:=zs) (i:=i) (by omega)
   refine ae (jk (s:=x9) (i:=i) rfl rfl rfl Vq (by omega)) ?_
   refine ae (aA rfl rfl) ?_
   refine jU (n:=1) (k:=i) (j:=0) (a:=z) (a':=({z with ag:=⟨iC,qs⟩}:Bk)) (xs:=zs) (enc:=bN) (c:=4) (v:=iC.val) (by kernel_rfl) rfl rfl rfl hz (by rw[Sv.hQ];simp[Sv.one]) (by rw[Sv.hQ];rfl) (by decide) (by rw[Sv.hQ];rfl) ?_
   refine Gc ?_
   iterate 2 refine Gs ?_
   refine Gi ?_
   exact bh (x:=(i,zs)) (i+1,zs.set i ({z with ag:=⟨iC,qs⟩}:Bk)) ⟨by first|omega|(simp only[];omega),by rw[List.length_set];exact aH,by rw[tP,←bu,show bv ({z with ag:=⟨iC,qs⟩}:Bk)=bv z from by rw[bv,bv,gM],←tP,vn hz],fun j hj=>by rw[List.getElem?_set_ne (by first|omega|(simp only[];omega))];exact cJ j (by first|omega|(simp only[];omega))⟩ (by simp only;omega) (Sub.cons rfl (Sub.cons rfl (Sub.cons rfl (Sub.cons rfl (Sub.cons rfl (Sub.nil _)))))) (fun w hw=>by
    have h1:=CQ (ah.mem hw:Mem _ (own (bP (τ:=UInt8)) 1 iC qs::aj.all (qs.map fun b:Sl UInt8=>fz b)::[own bN 4 x9 (zs.set i ({z with ag:=⟨iC,qs⟩}:Bk)),aj.all ((zs.take i).map fun b:Bk=>fz b.ag),ar b2 (aB ep) 25,ar b1 (aB (⟨c.ag,c.size,⟨x9,zs⟩,c.ops,c.off,c.bc⟩:Cp)) 25]) _)
    have h3:=Mem.vm (ah.mem h1:Mem _ (fz (⟨iC,qs⟩:Sl (Sl UInt8))::aj.all ((zs.take i).map fun b:Bk=>fz b.ag)::[own bN 4 x9 (zs.set i ({z with ag:=⟨iC,qs⟩}:Bk)),ar b2 (aB ep) 25,ar b1 (aB (⟨c.ag,c.size,⟨x9,zs⟩,c.ops,c.off,c.bc⟩:Cp)) 25]) _)
    rw[HB (z':=({z with ag:=⟨iC,qs⟩}:Bk)) hz]at h3
    exact(ah.mem h3:Mem _ [own bN 4 x9 (zs.set i ({z with ag:=⟨iC,qs⟩}:Bk)),aj.all (((zs.set i ({z with ag:=⟨iC,qs⟩}:Bk)).take (i+1)).map fun b:Bk=>fz b.ag),ar b2 (aB ep) 25,ar b1 (aB (⟨c.ag,c.size,⟨x9,zs⟩,c.ops,c.off,c.bc⟩:Cp)) 25] _))
 ·
  replace h0:=bz h0
  obtain rfl:i=zs.length:=by omega
  rw[List.take_of_length_le (Nat.le_refl _)]at*
  refine Gc ?_
  refine Gs ?_
  refine ae (Ry.to (v':=c.bc.sv.val) (bl rfl) rfl) ?_
  refine bp rfl (by omega) fun pt Kt=> ?_
  refine Gs ?_
  refine dM (cs':=aB (⟨c.ag,c.size,⟨x9,zs⟩,c.ops,c.off,⟨pt,c.bc.xs⟩⟩:Cp)) rfl rfl (by show 5<6;decide) (by first|rfl|exact Sv.one _) rfl ?_
  refine Gc ?_
  iterate 2 refine Gs ?_
  refine Gc ?_
  refine an (.inl rfl) (aK rfl (bG rfl)) (fun w1 hw=> ?_)
  exact⟨(⟨c.ag,c.size,⟨x9,zs⟩,c.ops,c.off,⟨pt,c.bc.xs⟩⟩:Cp),rfl,by simp only[cv,bu],zJ (d:=(⟨c.ag,c.size,⟨x9,zs⟩,c.ops,c.off,⟨pt,c.bc.xs⟩⟩:Cp)) ((Hj (a:=(⟨pt,c.bc.xs⟩:Sl Ft)) ((Hy (ah.mem hw:Mem w (own bN 4 x9 zs::aj.all (zs.map fun b:Bk=>fz b.ag)::[own cX 4 pt c.bc.xs]) _)).perm (List.Perm.swap _ _ _))).perm (List.Perm.swap _ _ _))⟩
instance afn{w0:World}{L:List aj}{c:Cp}[hc:aS w0 L c]:bW Tryz.prog 71 w0 L [.agg (aB c)] (Cp) (fun zz=> .agg (aB zz)) (fun zz=>fz zz::L) (fun zz=>cv zz=cv c) (dK c):=⟨fun hp w hw=>(Vm w c (hc.h w hw) hp).mono fun e w' ⟨x,h1,h2,h3⟩=>⟨x,h1,h2,hw.call h3⟩⟩
open Go.aL Go.Kb
open Go.RowKit
theorem Vt(w:World)(c:Cp)(hc:Deep.bk (hp w) c):Calls Tryz.prog 54 #[.agg (aB c)] w fun e w'=> ∃zz:b0×Sl (Sl UInt8),e= .returned (.tuple #[.agg (bQ zz.1),zz.2.sv.val, .int .i64 ((cH (cv c)).2)])∧(bw zz.1=(cH (cv c)).1∧lx zz.2=jz (cv c))∧Mem w [fz zz.1,fz zz.2] w':=by
 have gy:bT w c:=⟨hc⟩
 refine aW (args:=[_]) Tryz.func54 rfl Tryz.ntmps54 rfl ?_
 change Cw _ _ _ _ _ [(0, .agg (aB c))] []
 refine Gc ?_
 refine bL rfl fun b1=> ?_
 refine bx fun b2=> ?_
 iterate 2 refine Gs ?_
 refine Gc ?_
 iterate 3 refine Gs ?_
 refine Gc ?_
 refine aq rfl (fun h0=> ?_) (fun h0=> ?_)
 ·
  replace h0:=bz h0
  have hE:=Aq h0
  refine Gc ?_
  refine ae (bV (v:= .agg (bQ iw)) rfl (fun w=>by kernel_rfl)) ?_
  iterate 3 refine Gs ?_
  refine Gc ?_
  refine an (.inl rfl) (oF rfl (bG rfl) (al rfl) (al rfl)) (fun w1 hw=> ?_)
  exact⟨(iw,⟨Sv.none,[]⟩),by rw[hE.1];rfl,⟨by rw[hE.1];rfl,by rw[hE.2];rfl⟩,Aw (vS (ah.mem hw:Mem w [] _))⟩
 ·
  replace h0:=bz h0
  refine Gc ?_
  refine Gs ?_
  refine bp rfl trivial fun aD jB=> ?_
  have Vu:=C4 (cv c)
  rw[PJ]at jB
  have sZ:aD.at_.xs=(bq (cv c)).1.at_:=congrArg VV.at_ jB
  rw[←sZ]at Vu
  have afo: ∀(L:List aj) [Hd w L aD.at_.sv bf 1 aD.at_.xs],aS w L aD.at_:=fun L q=>⟨fun w h=>⟨q.h w h,fun _ _=>trivial⟩⟩
  have afp: ∀(L:List aj) [aS w L aD.ai] [aS w L aD.at_],aS w L aD:=fun L p q=>⟨fun w h=>⟨p.h w h,q.h w h⟩⟩
  refine Gs ?_
  refine ae (aU (v:= .agg (bo aD)) rfl rfl) ?_
  refine ae (aU (v:= .int .i64 ((bq (cv c)).2)) rfl rfl) ?_
  refine bx fun b5=> ?_
  iterate 2 refine Gs ?_
  refine Gc ?_
  iterate 2 refine Gs ?_
  refine Gc ?_
  refine aq rfl (fun h1=> ?_) (fun h1=> ?_)
  ·
   replace h1:=bz h1
   have hE:=Ar h0 h1
   refine Gc ?_
   refine ae (bV (v:= .agg (bQ iw)) rfl (fun w=>by kernel_rfl)) ?_
   iterate 4 refine Gs ?_
   refine Gc ?_
   refine an (.inl rfl) (oF rfl (bG rfl) (al rfl) (al rfl)) (fun w1 hw=> ?_)
   exact⟨(iw,⟨Sv.none,[]⟩),by rw[hE.1];rfl,⟨by rw[hE.1];rfl,by rw[hE.2];rfl⟩,Aw (vS (ah.mem hw:Mem w [] _))⟩
  ·
   replace h1:=bz h1
   have oq:(bq (cv c)).2=0:=h1
   have E3:gJ (vv aD)=true:=by rw[jB];exact Jp oq
   have wD:cv aD.ai=(vv aD).ai:=rfl
   have Vv:bg (cv aD.ai)=true:=(vz E3).1
   have Vw: ∀y∈aD.at_.xs,0≤y∧y≤65535∧(y≠0→nQ (cv aD.ai) (y -1)=true):=fun y hy=>by
    obtain⟨g1,g2⟩:=(vz E3).2.2 y hy
    obtain⟨j,hj⟩:=List.getElem?_of_mem hy
    exact⟨g1,g2,fun g=>(C7 E3 hj g).2.2⟩
   refine Gc ?_
   refine eF (by kernel_rfl) (by kernel_rfl) ?_
   iterate 4 refine Gq ?_
   refine oz (bX rfl trivial) ?_
   refine Gq ?_
   refine Gc ?_
   refine aq rfl (fun h2=> ?_) (fun h2=> ?_)
   ·
    replace h2:=bz h2
    have yw:(((bq (cv c)).1.at_.length:Nat):Int)≠fe (cv c):=by rw[←sZ];exact h2
    have hE:=As h0 oq yw
    refine Gc ?_
    refine ae (bV (v:= .agg (bQ iw)) rfl (fun w=>by kernel_rfl)) ?_
    iterate 3 refine Gs ?_
    refine Gc ?_
    refine an (.inl rfl) (oF rfl (bG rfl) (al rfl) (al rfl)) (fun w1 hw=> ?_)
    exact⟨(iw,⟨Sv.none,[]⟩),by rw[hE.1];rfl,⟨by rw[hE.1];rfl,by rw[hE.2];rfl⟩,Aw (vS (ah.mem hw:Mem w [] _))⟩
   ·
    replace h2:=bz h2
    have yw:(((bq (cv c)).1.at_.length:Nat):Int)=fe (cv c):=by rw[←sZ];exact h2
    have afq:aD.at_.xs.length≤64:=by have:=Jm (cv c);rw[←sZ]at yw;omega
    refine Gc ?_
    iterate 3 refine Gs ?_
    refine rJ (enc:=bP (τ:=UInt8)) (n:=aD.at_.xs.length) (cap:=aD.at_.xs.length) (⟨Sv.none,[]⟩:Sl UInt8) rfl rfl rfl rfl rfl (by omega) (by omega) (by omega) fun iP=> ?_
    refine Gs ?_
    refine Gc ?_
    iterate 3 refine Gs ?_
    refine Gc ?_
    refine bK (X:=Nat×List (Sl UInt8)) (fun zz=>[(36, .int .i64 (zz.1:Nat)),(7,(⟨false,iP,0,aD.at_.xs.length,aD.at_.xs.length,none⟩:Sv).val),(2, .pointer (some ⟨b2,0,none⟩)),(5, .pointer (some ⟨b5,0,none⟩)),(35, .int .i64 ((List.replicate aD.at_.xs.length (⟨Sv.none,[]⟩:Sl UInt8)).length:Nat))]) (fun zz=>[own (bP (τ:=UInt8)) 1 ⟨false,iP,0,aD.at_.xs.length,aD.at_.xs.length,none⟩ zz.2,aj.all ((zz.2.take zz.1).map fun b:Sl UInt8=>fz b),ar b5 (bo aD) 29,fz aD.ai,own bf 1 aD.at_.sv aD.at_.xs,ar b2 (bQ iw) 54,ar b1 (aB c) 25]) (fun zz=>zz.1≤aD.at_.xs.length∧zz.2.length=aD.at_.xs.length∧aE (zz.2.take zz.1)=(aD.at_.xs.take zz.1).map (iz (cv aD.ai))) (fun zz=>aD.at_.xs.length -zz.1) (0,List.replicate aD.at_.xs.length (⟨Sv.none,[]⟩:Sl UInt8)) ⟨Nat.zero_le _,by simp,by simp[aE]⟩ (Sub.cons rfl (Sub.cons rfl (Sub.cons rfl (Sub.cons rfl (Sub.cons rfl (Sub.nil _)))))) (fun w hw=>by
     simp only[List.take_zero,List.map_nil];exact ah.mem (Mem.tM hw)) ?_
    rintro⟨i,qs⟩ ⟨bb,aH,bu⟩
    dsimp only
    simp only at bb aH bu
    refine Gc ?_
    refine Gs ?_
    refine Gc ?_
    refine aq rfl (fun h3=> ?_) (fun h3=> ?_)
    ·
     replace h3:=bz h3
     rw[List.length_replicate]at h3
     obtain⟨q,hq⟩:=get_some (xs:=qs) (i:=i) (by omega)
     obtain⟨y,hy⟩:=get_some (xs:=aD.at_.xs) (i:=i) (by omega)
     have iA:aD.at_.xs.getD i 0=y:=oW hy
     refine Gc ?_
     iterate 2 refine Gs ?_
     iterate 2 refine Gi ?_
     have Vx:=zT (b:=iP) (n:=aD.at_.xs.length) (by omega)
     refine Gi ?_
     iterate 4 refine Gs ?_
     refine bp rfl ⟨Vv,by omega,Vw⟩ fun iN om=> ?_
     obtain⟨e44,afr⟩:=get_some (xs:=qs) (i:=i) (by omega)
     refine ae (jk (s:=⟨false,iP,0,aD.at_.xs.length,aD.at_.xs.length,none⟩) (i:=i) rfl rfl rfl Vx (by simp only;omega)) ?_
     refine zd (s:=⟨false,iP,0,aD.at_.xs.length,aD.at_.xs.length,none⟩) (xs:=qs) (k:=i) (a:=q) (⟨iN,iz (cv aD.ai) (aD.at_.xs.getD i 0)⟩:Sl UInt8) (by kernel_rfl) rfl rfl (by omega) hq ?_
     refine Gc ?_
     iterate 2 refine Gs ?_
     refine Gi ?_
     exact bh (x:=(i,qs)) (i+1,qs.set i (⟨iN,iz (cv aD.ai) (aD.at_.xs.getD i 0)⟩:Sl UInt8)) ⟨by first|omega|(simp only[];omega),by rw[List.length_set];exact aH,by rw[aE,zS hq,←aE,bu,List.take_add_one,hy,List.map_append,iA];rfl⟩ (by simp only;omega) (Sub.cons rfl (Sub.cons rfl (Sub.cons rfl (Sub.cons rfl (Sub.cons rfl (Sub.nil _)))))) (fun w hw=>by
      have h1:=CH (a:=(⟨iN,iz (cv aD.ai) (aD.at_.xs.getD i 0)⟩:Sl UInt8)) (ah.mem hw:Mem _ (own aJ 1 iN (iz (cv aD.ai) (aD.at_.xs.getD i 0))::[own (bP (τ:=UInt8)) 1 ⟨false,iP,0,aD.at_.xs.length,aD.at_.xs.length,none⟩ (qs.set i (⟨iN,iz (cv aD.ai) (aD.at_.xs.getD i 0)⟩:Sl UInt8)),aj.all ((qs.take i).map fun b:Sl UInt8=>fz b),ar b5 (bo aD) 29,fz aD.ai,own bf 1 aD.at_.sv aD.at_.xs,ar b2 (bQ iw) 54,ar b1 (aB c) 25]) _)
      have h3:=Mem.vm (ah.mem h1:Mem _ (fz (⟨iN,iz (cv aD.ai) (aD.at_.xs.getD i 0)⟩:Sl UInt8)::aj.all ((qs.take i).map fun b:Sl UInt8=>fz b)::[own (bP (τ:=UInt8)) 1 ⟨false,iP,0,aD.at_.xs.length,aD.at_.xs.length,none⟩ (qs.set i (⟨iN,iz (cv aD.ai) (aD.at_.xs.getD i 0)⟩:Sl UInt8)),ar b5 (bo aD) 29,fz aD.ai,own bf 1 aD.at_.sv aD.at_.xs,ar b2 (bQ iw) 54,ar b1 (aB c) 25]) _)
      rw[CR (z':=(⟨iN,iz (cv aD.ai) (aD.at_.xs.getD i 0)⟩:Sl UInt8)) hq]at h3
      exact ah.mem h3)
    ·
     replace h3:=bz h3
     rw[List.length_replicate]at h3
     obtain rfl:i=qs.length:=by omega
     rw[List.take_of_length_le (Nat.le_refl _)]at*
     rw[List.take_of_length_le (by omega)]at bu
     have nn:lx (⟨⟨false,iP,0,aD.at_.xs.length,aD.at_.xs.length,none⟩,qs⟩:Sl (Sl UInt8))=lv (bq (cv c)).1:=by rw[←jB];exact bu
     have cO: ∀x∈qs,x.xs.length≤100000:=fun x hx=>by
      have hm:x.xs∈aE qs:=List.mem_map_of_mem (f:=fun x:Sl UInt8=>x.xs) hx
      rw[bu]at hm
      obtain⟨y,_,E4⟩:=List.mem_map.1 hm
      rw[←E4]
      exact Nat.le_trans (Jq _ _) (by decide)
     iterate 6 refine Gi ?_
     refine oH [fz (⟨⟨false,iP,0,aD.at_.xs.length,aD.at_.xs.length,none⟩,qs⟩:Sl (Sl UInt8)),ar b5 (bo aD) 29,fz aD.ai,own bf 1 aD.at_.sv aD.at_.xs,ar b2 (bQ iw) 54,ar b1 (aB c) 25] (fun w hw=>ah.mem (CQ (ah.mem hw:Mem _ (own (bP (τ:=UInt8)) 1 ⟨false,iP,0,aD.at_.xs.length,aD.at_.xs.length,none⟩ qs::aj.all (qs.map fun b:Sl UInt8=>fz b)::[ar b5 (bo aD) 29,fz aD.ai,own bf 1 aD.at_.sv aD.at_.xs,ar b2 (bQ iw) 54,ar b1 (aB c) 25]) _))) ?_
     refine Gi ?_
     refine Gs ?_
     refine bp (hc:=U4 (a:=(⟨⟨false,iP,0,aD.at_.xs.length,aD.at_.xs.length,none⟩,qs⟩:Sl (Sl UInt8)))) rfl ⟨by show qs.length≤1000;omega,cO⟩ fun sS J7=> ?_
     refine Gs ?_
     refine ae (aU (v:=sS.val) rfl rfl) ?_
     refine ae (aU (v:= .int .i64 (jy (lx (⟨⟨false,iP,0,aD.at_.xs.length,aD.at_.xs.length,none⟩,qs⟩:Sl (Sl UInt8))))) rfl rfl) ?_
     iterate 2 refine Gs ?_
     refine Gc ?_
     iterate 2 refine Gs ?_
     refine Gc ?_
     refine aq rfl (fun h4=> ?_) (fun h4=> ?_)
     ·
      replace h4:=bz h4
      rw[nn]at h4
      have hE:=Au h0 oq yw h4
      refine Gc ?_
      refine ae (bV (v:= .agg (bQ iw)) rfl (fun w=>by kernel_rfl)) ?_
      iterate 3 refine Gs ?_
      refine Gc ?_
      refine an (.inl rfl) (oF rfl (bG rfl) (al rfl) (al rfl)) (fun w1 hw=> ?_)
      exact⟨(iw,⟨Sv.none,[]⟩),by rw[hE.1];rfl,⟨by rw[hE.1];rfl,by rw[hE.2];rfl⟩,Aw (vS (ah.mem hw:Mem w [] _))⟩
     ·
      replace h4:=bz h4
      have Ku:=h4
      rw[nn]at Ku
      have hE:=uh h0 oq yw Ku
      refine Gc ?_
      iterate 2 refine Gs ?_
      refine ae (bV (v:= .agg (bQ (⟨aD,⟨sS,iu (lx (⟨⟨false,iP,0,aD.at_.xs.length,aD.at_.xs.length,none⟩,qs⟩:Sl (Sl UInt8)))⟩⟩:b0))) rfl (A5 aD ⟨sS,iu (lx (⟨⟨false,iP,0,aD.at_.xs.length,aD.at_.xs.length,none⟩,qs⟩:Sl (Sl UInt8)))⟩)) ?_
      iterate 4 refine Gs ?_
      refine Gc ?_
      refine an (.inl rfl) (oF rfl (bG rfl) (al rfl) (al rfl)) (fun w1 hw=> ?_)
      exact⟨((⟨aD,⟨sS,iu (lx (⟨⟨false,iP,0,aD.at_.xs.length,aD.at_.xs.length,none⟩,qs⟩:Sl (Sl UInt8)))⟩⟩:b0),(⟨⟨false,iP,0,aD.at_.xs.length,aD.at_.xs.length,none⟩,qs⟩:Sl (Sl UInt8))),by rw[hE.1],⟨by rw[hE.1];simp only[bw,nn,jB],by rw[hE.2];exact nn⟩,Jl (f:=(⟨aD,⟨sS,iu (lx (⟨⟨false,iP,0,aD.at_.xs.length,aD.at_.xs.length,none⟩,qs⟩:Sl (Sl UInt8)))⟩⟩:b0)) (ah.mem hw:Mem w [fz aD.ai,own bf 1 aD.at_.sv aD.at_.xs,own aw 19 sS (iu (lx (⟨⟨false,iP,0,aD.at_.xs.length,aD.at_.xs.length,none⟩,qs⟩:Sl (Sl UInt8)))),fz (⟨⟨false,iP,0,aD.at_.xs.length,aD.at_.xs.length,none⟩,qs⟩:Sl (Sl UInt8))] _)⟩
instance afs{w0:World}{L:List aj}{c:Cp}[hc:aS w0 L c]:bW Tryz.prog 54 w0 L [.agg (aB c)] (b0×Sl (Sl UInt8)) (fun zz=> .tuple #[.agg (bQ zz.1),zz.2.sv.val, .int .i64 ((cH (cv c)).2)]) (fun zz=>fz zz.1::fz zz.2::L) (fun zz=>bw zz.1=(cH (cv c)).1∧lx zz.2=jz (cv c)) (True):=⟨fun hp w hw=>(Vt w c (hc.h w hw)).mono fun e w' ⟨x,h1,h2,h3⟩=>⟨x,h1,h2,hw.call h3⟩⟩
open Go.aL Go.Kb
open Go.RowKit
theorem Vy(w:World)(x:Sv)(xs:List Rt)(y:Sv)(ys:List Rt)(hx:bM aw 19 (hp w) x xs)(hy:bM aw 19 (hp w) y ys):Calls Tryz.prog 105 #[x.val,y.val] w fun e w'=>e= .returned (.bool (decide (xs=ys)))∧Mem w [] w':=by
 have sI:Gv w x aw 19 xs:=⟨hx⟩
 have Ec:Gv w y aw 19 ys:=⟨hy⟩
 have Ed:=hx.bd
 refine aW (args:=[_,_]) Tryz.func105 rfl Tryz.ntmps105 rfl ?_
 change Cw _ _ _ _ _ [(0,x.val),(1,y.val)] []
 refine Gc ?_
 refine Gs ?_
 refine Gc ?_
 iterate 5 refine Gs ?_
 refine Gc ?_
 refine aq rfl (fun h0=> ?_) (fun h0=> ?_)
 ·
  replace h0:=bz h0
  have hz:decide (xs=ys)=false:=decide_eq_false fun e=>h0 (by rw[e])
  refine Gc ?_
  refine Gs ?_
  refine Gc ?_
  refine an (.inl rfl) (aK rfl (al rfl)) (fun w1 hw=> ?_)
  exact⟨congrArg (fun b=>Ending.returned (Value.bool b)) (hz.symm),ah.mem hw⟩
 ·
  replace h0:=bz h0
  have la:xs.length=ys.length:=by omega
  refine Gc ?_
  iterate 3 refine Gs ?_
  refine Gc ?_
  refine bK (X:=Nat) (fun zz=>[(13, .int .i64 (zz:Nat)),(0,x.val),(1,y.val),(12, .int .i64 (xs.length:Nat))]) (fun zz=>[]) (fun zz=>zz≤xs.length∧ ∀j,j<zz→xs[j]? =ys[j]?) (fun zz=>xs.length -zz) 0 ⟨Nat.zero_le _,fun j hj=>by first|omega|(simp only[];omega)⟩ (Sub.cons rfl (Sub.cons rfl (Sub.cons rfl (Sub.cons rfl (Sub.nil _))))) (fun w hw=>ah.mem hw) ?_
  rintro i ⟨bb,aH⟩
  refine Gc ?_
  refine Gs ?_
  refine Gc ?_
  refine aq rfl (fun h1=> ?_) (fun h1=> ?_)
  ·
   replace h1:=bz h1
   obtain⟨p,g9⟩:=get_some (xs:=xs) (i:=i) (by omega)
   obtain⟨q,mM⟩:=get_some (xs:=ys) (i:=i) (by omega)
   refine Gc ?_
   iterate 2 refine Gs ?_
   refine Gc ?_
   refine eF (by kernel_rfl) (by kernel_rfl) ?_
   iterate 2 refine Gq ?_
   refine aT (aX rfl rfl i rfl (by omega)) ?_
   refine aT (fH rfl i g9 rfl) ?_
   iterate 2 refine Gq ?_
   refine aT (aX rfl rfl i rfl (by omega)) ?_
   refine aT (fH rfl i mM rfl) ?_
   refine aT (BA rfl rfl) ?_
   refine Gc ?_
   refine aq rfl (fun h2=> ?_) (fun h2=> ?_)
   ·
    replace h2:=bz h2
    have hz:decide (xs=ys)=false:=decide_eq_false fun e=>h2 (by rw[e]at g9;rw[g9]at mM;cases mM;rfl)
    refine Gc ?_
    refine Gs ?_
    refine Gc ?_
    refine an (.inl rfl) (aK rfl (al rfl)) (fun w1 hw=> ?_)
    exact⟨congrArg (fun b=>Ending.returned (Value.bool b)) (hz.symm),ah.mem hw⟩
   ·
    replace h2:=bz h2
    refine Gc ?_
    iterate 2 refine Gs ?_
    refine Gi ?_
    exact bh (x:=(i)) (i+1) ⟨by first|omega|(simp only[];omega),fun j hj=>if e:j=i then(by subst e;rw[g9,mM,h2])else aH j (by first|omega|(simp only[];omega))⟩ (by first|omega|(simp only[];omega)) (Sub.cons rfl (Sub.cons rfl (Sub.cons rfl (Sub.cons rfl (Sub.nil _))))) (fun w hw=>ah.mem hw)
  ·
   replace h1:=bz h1
   obtain rfl:i=xs.length:=by omega
   have hz:decide (xs=ys)=true:=decide_eq_true (List.ext_getElem? fun j=>by
    rcases Nat.lt_or_ge j xs.length with hj|hj
    ·
     exact aH j hj
    ·
     rw[List.getElem?_eq_none hj,List.getElem?_eq_none (by omega)])
   refine Gc ?_
   refine Gs ?_
   refine Gc ?_
   refine an (.inl rfl) (aK rfl (al rfl)) (fun w1 hw=> ?_)
   exact⟨congrArg (fun b=>Ending.returned (Value.bool b)) (hz.symm),ah.mem hw⟩
instance aft{w0:World}{L:List aj}{x:Sv}{xs:List Rt}{y:Sv}{ys:List Rt}[hx:cl w0 L aw 19 x xs][hy:cl w0 L aw 19 y ys]:bU Tryz.prog 105 w0 L [x.val,y.val] (.bool (decide (xs=ys))) (True):=⟨fun hp w hw=>Vy w x xs y ys (hx.h w hw) (hy.h w hw)⟩
theorem Vz(w:World)(f:b0)(hf:Deep.bk (hp w) f):Calls Tryz.prog 62 #[.agg (bQ f)] w fun e w'=> ∃zz:Sl (Sl UInt8),e= .returned (.tuple #[zz.sv.val, .bool (ft (bw f))])∧(ft (bw f)=true→lx zz=jz {(bw f).aF.ai with off:=false})∧Mem w [fz zz] w':=by
 have uF:bT w f:=⟨hf⟩
 refine aW (args:=[_]) Tryz.func62 rfl Tryz.ntmps62 rfl ?_
 change Cw _ _ _ _ _ [(0, .agg (bQ f))] []
 refine Gc ?_
 refine bL rfl fun b1=> ?_
 iterate 2 refine Gs ?_
 refine Gc ?_
 iterate 2 refine Gs ?_
 refine ae (eE rfl) ?_
 refine bx fun b4=> ?_
 refine Gs ?_
 refine Gc ?_
 refine Gs ?_
 refine dM (cs':=aB (⟨f.aF.ai.ag,f.aF.ai.size,f.aF.ai.blocks,f.aF.ai.ops,false,f.aF.ai.bc⟩:Cp)) rfl rfl (by show 4<6;decide) (by first|rfl|exact Sv.one _) rfl ?_
 refine Gc ?_
 refine Gs ?_
 refine bp rfl trivial fun kS wc=> ?_
 have A6:bw kS.1=(cH {(bw f).aF.ai with off:=false}).1:=wc.1
 have g1:kS.1.aF.gen.toNat=(cH {(bw f).aF.ai with off:=false}).1.aF.gen:=congrArg (fun z:FV=>z.aF.gen) A6
 have g2:kS.1.aF.last=(cH {(bw f).aF.ai with off:=false}).1.aF.last:=congrArg (fun z:FV=>z.aF.last) A6
 have g3:kS.1.aF.at_.xs=(cH {(bw f).aF.ai with off:=false}).1.aF.at_:=congrArg (fun z:FV=>z.aF.at_) A6
 have g4:kS.1.table.xs=(cH {(bw f).aF.ai with off:=false}).1.table:=congrArg FV.table A6
 have hS:ft (bw f)=true↔(cH {(bw f).aF.ai with off:=false}).2=0∧f.aF.gen.toNat=kS.1.aF.gen.toNat∧f.aF.last=kS.1.aF.last∧f.aF.at_.xs=kS.1.aF.at_.xs∧f.table.xs=kS.1.table.xs:=by rw[DT,g1,g2,g3,g4];rfl
 refine Gs ?_
 refine ae (aU (v:= .agg (bQ kS.1)) rfl rfl) ?_
 refine ae (aU (v:=kS.2.sv.val) rfl rfl) ?_
 refine ae (aU (v:= .int .i64 ((cH (cv (⟨f.aF.ai.ag,f.aF.ai.size,f.aF.ai.blocks,f.aF.ai.ops,false,f.aF.ai.bc⟩:Cp))).2)) rfl rfl) ?_
 refine bx fun b5=> ?_
 iterate 3 refine Gs ?_
 refine Gc ?_
 iterate 3 refine Gs ?_
 refine Gg ?_
 refine bD rfl rfl rfl (fun hg=>(Ry.yl (aA (o':=7) (av hg rfl) rfl))) ?_
 iterate 2 refine Gg ?_
 refine bD rfl rfl rfl (fun hg=>(Ry.yl (aA (o':=7) (av hg rfl) rfl))) ?_
 iterate 2 refine Gg ?_
 iterate 2 refine Gs ?_
 refine Gg ?_
 refine bD rfl rfl rfl (fun hg=>(Ry.yl (aA (o':=8) (av hg rfl) rfl))) ?_
 iterate 2 refine Gg ?_
 refine bD rfl rfl rfl (fun hg=>(Ry.yl (aA (o':=8) (av hg rfl) rfl))) ?_
 iterate 2 refine Gg ?_
 refine Gs ?_
 refine Gc ?_
 refine aq rfl (fun h0=> ?_) (fun h0=> ?_)
 ·
  replace h0:=bz h0
  have hE:ft (bw f)=false:=by
   cases hk:ft (bw f)with
   |false=>rfl
   |true=>
    obtain⟨q1,q2,q3,q4,q5⟩:=hS.1 hk
    rcases h0 with(h|h)|h
    ·
     exact absurd q1 h
    ·
     omega
    ·
     exact absurd q3 h
  refine Gc ?_
  iterate 2 refine Gs ?_
  refine Gc ?_
  refine an (.inl rfl) (aZ rfl (al rfl) (al rfl)) (fun w1 hw=> ?_)
  exact⟨⟨Sv.none,[]⟩,by rw[hE];rfl,(fun h=>by rw[hE]at h;cases h),vS (ah.mem hw:Mem w [] _)⟩
 ·
  replace h0:=bz h0
  refine Gc ?_
  iterate 9 refine Gs ?_
  iterate 4 refine Gg ?_
  refine bD rfl rfl rfl (fun hg=>bX (cg (av hg rfl) (cg (av hg rfl) dO)) trivial) ?_
  refine bD rfl rfl rfl (fun hg=>(Ry.yl (fU (av hg rfl)))) ?_
  refine Gs ?_
  refine Gc ?_
  refine aq rfl (fun h1=> ?_) (fun h1=> ?_)
  ·
   replace h1:=bz h1
   have hE:ft (bw f)=false:=by
    cases hk:ft (bw f)with
    |false=>rfl
    |true=>
     obtain⟨q1,q2,q3,q4,q5⟩:=hS.1 hk
     rcases h1 with h|h
     ·
      exact absurd q4 h
     ·
      exact absurd q5 h
   refine Gc ?_
   iterate 2 refine Gs ?_
   refine Gc ?_
   refine an (.inl rfl) (aZ rfl (al rfl) (al rfl)) (fun w1 hw=> ?_)
   exact⟨⟨Sv.none,[]⟩,by rw[hE];rfl,(fun h=>by rw[hE]at h;cases h),vS (ah.mem hw:Mem w [] _)⟩
  ·
   replace h1:=bz h1
   have hE:ft (bw f)=true:=hS.2 ⟨h0.1.1,by have:=h0.1.2;omega,h0.2,h1.1,h1.2⟩
   refine Gc ?_
   iterate 3 refine Gs ?_
   refine Gc ?_
   refine an (.inl rfl) (aZ rfl (al rfl) (al rfl)) (fun w1 hw=> ?_)
   exact⟨kS.2,by rw[hE],(fun _=>wc.2),ah.mem hw⟩
instance afu{w0:World}{L:List aj}{f:b0}[hf:aS w0 L f]:bW Tryz.prog 62 w0 L [.agg (bQ f)] (Sl (Sl UInt8)) (fun zz=> .tuple #[zz.sv.val, .bool (ft (bw f))]) (fun zz=>fz zz::L) (fun zz=>ft (bw f)=true→lx zz=jz {(bw f).aF.ai with off:=false}) (True):=⟨fun hp w hw=>(Vz w f (hf.h w hw)).mono fun e w' ⟨x,h1,h2,h3⟩=>⟨x,h1,h2,hw.call h3⟩⟩
theorem VA(w:World)(f:b0)(hf:Deep.bk (hp w) f):Calls Tryz.prog 28 #[.agg (bQ f)] w fun e w'=>e= .returned (.bool (ft (bw f)))∧Mem w [] w':=by
 have uF:bT w f:=⟨hf⟩
 refine aW (args:=[_]) Tryz.func28 rfl Tryz.ntmps28 rfl ?_
 change Cw _ _ _ _ _ [(0, .agg (bQ f))] []
 refine Gc ?_
 refine bL rfl fun b1=> ?_
 refine Gs ?_
 refine Gc ?_
 refine Gs ?_
 refine bp rfl trivial fun x7 hp7=> ?_
 refine Gs ?_
 refine ae (aU (v:=x7.sv.val) rfl rfl) ?_
 refine ae (aU (v:= .bool (ft (bw f))) rfl rfl) ?_
 iterate 2 refine Gs ?_
 refine Gc ?_
 iterate 2 refine Gs ?_
 refine Gc ?_
 refine an (.inl rfl) (aK rfl (al rfl)) (fun w1 hw=> ?_)
 exact⟨congrArg (fun b=>Ending.returned (Value.bool b)) (rfl),ah.mem hw⟩
instance afv{w0:World}{L:List aj}{f:b0}[hf:aS w0 L f]:bU Tryz.prog 28 w0 L [.agg (bQ f)] (.bool (ft (bw f))) (True):=⟨fun hp w hw=>VA w f (hf.h w hw)⟩
theorem VB(w:World)(c:Cp)(hc:Deep.bk (hp w) c):Calls Tryz.prog 21 #[.agg (aB c)] w fun e w'=> ∃zz:b0,e= .returned (.tuple #[.agg (bQ zz), .int .i64 ((cH (cv c)).2)])∧(bw zz=(cH (cv c)).1)∧Mem w [fz zz] w':=by
 have gy:bT w c:=⟨hc⟩
 refine aW (args:=[_]) Tryz.func21 rfl Tryz.ntmps21 rfl ?_
 change Cw _ _ _ _ _ [(0, .agg (aB c))] []
 refine Gc ?_
 refine bL rfl fun b1=> ?_
 refine bx fun b2=> ?_
 refine Gs ?_
 refine Gc ?_
 refine Gs ?_
 refine bp rfl trivial fun x9 vW=> ?_
 refine Gs ?_
 refine ae (aU (v:= .agg (bQ x9.1)) rfl rfl) ?_
 refine ae (aU (v:=x9.2.sv.val) rfl rfl) ?_
 refine ae (aU (v:= .int .i64 ((cH (cv c)).2)) rfl rfl) ?_
 refine bx fun b4=> ?_
 iterate 3 refine Gs ?_
 refine Gc ?_
 iterate 4 refine Gs ?_
 refine Gc ?_
 refine an (.inl rfl) (aZ rfl (bG rfl) (al rfl)) (fun w1 hw=> ?_)
 exact⟨x9.1,rfl,vW.1,ah.mem hw⟩
instance afw{w0:World}{L:List aj}{c:Cp}[hc:aS w0 L c]:bW Tryz.prog 21 w0 L [.agg (aB c)] (b0) (fun zz=> .tuple #[.agg (bQ zz), .int .i64 ((cH (cv c)).2)]) (fun zz=>fz zz::L) (fun zz=>bw zz=(cH (cv c)).1) (True):=⟨fun hp w hw=>(VB w c (hc.h w hw)).mono fun e w' ⟨x,h1,h2,h3⟩=>⟨x,h1,h2,hw.call h3⟩⟩
theorem VC(w:World)(f:b0)(k:Key)(bits:Int)(hf:Deep.bk (hp w) f):Calls Tryz.prog 27 #[.agg (bQ f), .agg (cc k), .int .i64 bits] w fun e w'=>e= .returned (.tuple #[.agg (aw (n0 (bw f) k bits)), .int .i64 (n4 (bw f) k bits)])∧Mem w [] w':=by
 have uF:bT w f:=⟨hf⟩
 refine aW (args:=[_,_,_]) Tryz.func27 rfl Tryz.ntmps27 rfl ?_
 change Cw _ _ _ _ _ [(0, .agg (bQ f)),(1, .agg (cc k)),(2, .int .i64 bits)] []
 refine Gc ?_
 refine bL rfl fun b3=> ?_
 refine bL rfl fun b4=> ?_
 refine bx fun b6=> ?_
 refine Gs ?_
 refine Gc ?_
 iterate 3 refine Gs ?_
 refine Gc ?_
 refine aq rfl (fun h0=> ?_) (fun h0=> ?_)
 ·
  replace h0:=bz h0
  refine Gc ?_
  refine ae (mV rfl) ?_
  iterate 2 refine Gs ?_
  refine Gc ?_
  refine an (.inl rfl) (aZ rfl (bG rfl) (al rfl)) (fun w1 hw=> ?_)
  exact⟨(by rw[n0,n4,if_neg (by rw[h0];simp),if_neg (by rw[h0];simp)]),ah.mem hw⟩
 ·
  replace h0:=bz h0
  refine Gc ?_
  iterate 5 refine Gs ?_
  refine ae (aU (v:= .agg (aw (iK f.table.xs k bits))) rfl rfl) ?_
  refine ae (aU (v:= .int .i64 (jN f.table.xs k bits)) rfl rfl) ?_
  iterate 2 refine Gs ?_
  refine Gc ?_
  refine an (.inl rfl) (aZ rfl (bG rfl) (al rfl)) (fun w1 hw=> ?_)
  exact⟨(by rw[n0,n4,if_pos h0,if_pos h0];rfl),ah.mem hw⟩
instance afx{w0:World}{L:List aj}{f:b0}{k:Key}{bits:Int}[hf:aS w0 L f]:bU Tryz.prog 27 w0 L [.agg (bQ f), .agg (cc k), .int .i64 bits] (.tuple #[.agg (aw (n0 (bw f) k bits)), .int .i64 (n4 (bw f) k bits)]) (True):=⟨fun hp w hw=>VC w f k bits (hf.h w hw)⟩
open Go.aL Go.Kb
open Go.RowKit
theorem Kv(v:bI)(w:World):(Instr.build 54 #[(0, .agg (bo v))]).run Tryz.prog w= .ok (.agg (bQ ⟨v,⟨Sv.none,[]⟩⟩)) w:=by
 obtain⟨⟨a1,a2,⟨a3,a4⟩,a5,a6,⟨a7,a8⟩⟩,⟨a9,Vd⟩,Ve,Vf⟩:=v
 unfold bQ bo
 obtain⟨e3,b3,o3,l3,c3,p3⟩:=a3
 obtain⟨e7,b7,o7,l7,c7,p7⟩:=a7
 obtain⟨e9,b9,o9,l9,c9,p9⟩:=a9
 cases e3<;>cases e7<;>cases e9<;>kernel_rfl
theorem Kw{w0 w:World}{L:List aj}{v:bI}(h:Mem w0 (fz v.ai::fz v.at_::L) w):Mem w0 (fz (⟨v,⟨Sv.none,[]⟩⟩:b0)::L) w:=
 Av (f:=⟨v,⟨Sv.none,[]⟩⟩) ((xI (a:=⟨Sv.none,[]⟩) (Mem.cz aw 19 h)).perm ((List.Perm.swap _ _ _).trans (List.Perm.cons _ (List.Perm.swap _ _ _))))
theorem VD(w:World)(c:Cp)(hc:Deep.bk (hp w) c)(ba:dK c):Calls Tryz.prog 33 #[.agg (aB c)] w fun e w'=> ∃zz:b0,e= .returned (.tuple #[.agg (bQ zz), .int .i64 ((pf (cv c)).2)])∧(bw zz=(pf (cv c)).1)∧Mem w [fz zz] w':=by
 have gy:bT w c:=⟨hc⟩
 have kv:dK c:=ba
 refine aW (args:=[_]) Tryz.func33 rfl Tryz.ntmps33 rfl ?_
 change Cw _ _ _ _ _ [(0, .agg (aB c))] []
 refine Gc ?_
 refine bL rfl fun b1=> ?_
 refine bx fun b2=> ?_
 refine Gs ?_
 refine Gc ?_
 iterate 3 refine Gs ?_
 refine Gc ?_
 refine aq rfl (fun h0=> ?_) (fun h0=> ?_)
 ·
  replace h0:=bz h0
  have hE:pf (cv c)=(⟨⟨cv c,[],0,0⟩,[]⟩,1):=by rw[pf,if_pos h0]
  refine Gc ?_
  refine Gs ?_
  refine bp rfl (by assumption) fun uG VE=> ?_
  refine ae (bV (v:= .agg (bo (⟨uG,⟨Sv.none,[]⟩,0,0⟩:bI))) rfl (yj uG)) ?_
  refine ae (bV (v:= .agg (bQ (⟨(⟨uG,⟨Sv.none,[]⟩,0,0⟩:bI),⟨Sv.none,[]⟩⟩:b0))) rfl (Kv (⟨uG,⟨Sv.none,[]⟩,0,0⟩:bI))) ?_
  iterate 2 refine Gs ?_
  refine Gc ?_
  refine an (.inl rfl) (aZ rfl (bG rfl) (al rfl)) (fun w1 hw=> ?_)
  exact⟨(⟨(⟨uG,⟨Sv.none,[]⟩,0,0⟩:bI),⟨Sv.none,[]⟩⟩:b0),by rw[hE],by rw[hE];simp only[bw,vv,VE];rfl,Kw (v:=(⟨uG,⟨Sv.none,[]⟩,0,0⟩:bI)) (ah.mem (yk (ah.mem hw:Mem w [fz uG] _)))⟩
 ·
  replace h0:=bz h0
  have hE:pf (cv c)=(⟨(kN (cv c) (fe (cv c))).1,[]⟩,(kN (cv c) (fe (cv c))).2):=by rw[pf,if_neg h0]
  refine Gc ?_
  refine oN [3,7,8,2007,4003] [[],[],[],[],[3],[3],[3],[],[3,7],[3,7,8]] [0,1,2,3,4,5,6,7,8,9] [ar b1 (aB c) 25] [(7,kF Tryz.prog 29)] (by kernel_rfl) (fun _ hw=>ah.mem hw) (by kernel_rfl) (by kernel_rfl) ?_
  refine ak rfl (dW rfl) ?_
  refine ak rfl (dW rfl) ?_
  refine nM rfl (bX rfl trivial) ?_
  refine rS rfl rfl (by assumption) (fun e x w hw=>ah.mem hw) (Cert.one (i:=7) rfl rfl rfl jZ (Cert.none rfl)) fun eX yg=>⟨fun _ hw=>ah.mem hw,?_⟩
  refine ak rfl (au rfl) ?_
  refine ak rfl (aU (v:= .agg (bo (⟨eX.1,eX.2.1,eX.2.2.1,eX.2.2.2⟩:bI))) rfl rfl) ?_
  refine ak rfl (aU (v:= .int .i64 ((kN (cv c) (fe (cv c))).2)) rfl rfl) ?_
  refine mZ (m:=kF Tryz.prog 29) rfl rfl jZ (Cert.none rfl) fun b4=> ?_
  change Ln _ _ _ _ _ _ _ _ (cm _ _ (.pointer (some ⟨b4,0,none⟩))) (ar b4 (bo fq) 29::_) _
  refine cK rfl (km rfl rfl ⟨fun _ hw=>ah.mem hw,?_⟩)
  refine ak rfl (aP rfl) ?_
  refine Gc ?_
  refine Gs ?_
  refine ae (bV (v:= .agg (bQ (⟨(⟨eX.1,eX.2.1,eX.2.2.1,eX.2.2.2⟩:bI),⟨Sv.none,[]⟩⟩:b0))) rfl (Kv (⟨eX.1,eX.2.1,eX.2.2.1,eX.2.2.2⟩:bI))) ?_
  iterate 3 refine Gs ?_
  refine Gc ?_
  refine an (.inl rfl) (aZ rfl (bG rfl) (al rfl)) (fun w1 hw=> ?_)
  exact⟨(⟨(⟨eX.1,eX.2.1,eX.2.2.1,eX.2.2.2⟩:bI),⟨Sv.none,[]⟩⟩:b0),by rw[hE],by rw[hE];simp only[bw,vv,yg],Kw (v:=(⟨eX.1,eX.2.1,eX.2.2.1,eX.2.2.2⟩:bI)) (ah.mem hw)⟩
instance afy{w0:World}{L:List aj}{c:Cp}[hc:aS w0 L c]:bW Tryz.prog 33 w0 L [.agg (aB c)] (b0) (fun zz=> .tuple #[.agg (bQ zz), .int .i64 ((pf (cv c)).2)]) (fun zz=>fz zz::L) (fun zz=>bw zz=(pf (cv c)).1) (dK c):=⟨fun hp w hw=>(VD w c (hc.h w hw) hp).mono fun e w' ⟨x,h1,h2,h3⟩=>⟨x,h1,h2,hw.call h3⟩⟩
theorem VF{w0 w:World}{L:List aj}{f:b0}{a:Sl Rt}(h:Mem w0 (fz f::own aw 19 a.sv a.xs::L) w):Mem w0 (fz (⟨f.aF,a⟩:b0)::L) w:=by
 have h2:=(xI (a:=a) (h.perm (List.Perm.swap _ _ _))).perm (List.Perm.swap _ _ _)
 refine Mem.freeze (es:=[fz f,fz a]) (⟨f.aF,a⟩:b0) ⟨(h2.sat (fz f) (by simp)).1,h2.sat (fz a) (by simp)⟩ (fun k hk=> ?_) h2
 rcases hk with hk|hk
 ·
  exact⟨fz f,by simp, .inl hk⟩
 ·
  exact⟨fz a,by simp,hk⟩
theorem VG(w:World)(f:b0)(hf:Deep.bk (hp w) f)(ba:dK f.aF.ai∧f.aF.at_.xs.length≤1000000∧f.table.xs.length≤1000000):Calls Tryz.prog 75 #[.agg (bQ f)] w fun e w'=> ∃zz:b0,e= .returned (.agg (bQ zz))∧(bw zz=bw f)∧Mem w [fz zz] w':=by
 have uF:bT w f:=⟨hf⟩
 obtain⟨kQ,kr,np⟩:=ba
 refine aW (args:=[_]) Tryz.func75 rfl Tryz.ntmps75 rfl ?_
 change Cw _ _ _ _ _ [(0, .agg (bQ f))] []
 refine Gc ?_
 refine bL rfl fun b1=> ?_
 refine bx fun b2=> ?_
 refine Gc ?_
 iterate 2 refine Gs ?_
 refine ae (eE rfl) ?_
 refine bp rfl kQ fun x6 Jw=> ?_
 iterate 2 refine Gs ?_
 refine wJ (cs':=bQ ({f with aF:=({f.aF with ai:=x6}:bI)}:b0)) rfl rfl (by show 0+6≤10;decide) rfl ?_
 refine Gc ?_
 iterate 3 refine Gs ?_
 refine bp rfl kr fun fE oo=> ?_
 iterate 2 refine Gs ?_
 refine dM (cs':=bQ ({f with aF:=({f.aF with ai:=x6,at_:=⟨fE,f.aF.at_.xs⟩}:bI)}:b0)) rfl rfl (by show 6<10;decide) (by first|rfl|exact Sv.one _) rfl ?_
 refine Gc ?_
 iterate 2 refine Gs ?_
 refine bp rfl np fun eX yg=> ?_
 refine Gs ?_
 refine dM (cs':=bQ (⟨({f.aF with ai:=x6,at_:=⟨fE,f.aF.at_.xs⟩}:bI),⟨eX,f.table.xs⟩⟩:b0)) rfl rfl (by show 9<10;decide) (by first|rfl|exact Sv.one _) rfl ?_
 refine Gc ?_
 iterate 2 refine Gs ?_
 refine Gc ?_
 refine an (.inl rfl) (aK rfl (bG rfl)) (fun w1 hw=> ?_)
 exact⟨(⟨({f.aF with ai:=x6,at_:=⟨fE,f.aF.at_.xs⟩}:bI),⟨eX,f.table.xs⟩⟩:b0),rfl,by simp only[bw,vv,Jw],Jl (f:=(⟨({f.aF with ai:=x6,at_:=⟨fE,f.aF.at_.xs⟩}:bI),⟨eX,f.table.xs⟩⟩:b0)) (ah.mem hw)⟩
instance afz{w0:World}{L:List aj}{f:b0}[hf:aS w0 L f]:bW Tryz.prog 75 w0 L [.agg (bQ f)] (b0) (fun zz=> .agg (bQ zz)) (fun zz=>fz zz::L) (fun zz=>bw zz=bw f) (dK f.aF.ai∧f.aF.at_.xs.length≤1000000∧f.table.xs.length≤1000000):=⟨fun hp w hw=>(VG w f (hf.h w hw) hp).mono fun e w' ⟨x,h1,h2,h3⟩=>⟨x,h1,h2,hw.call h3⟩⟩
end Go.Proofs.YtaipiecplldinaaGreat
namespace Go.Kb
open Go.aL
theorem Kx{t:List Rt}{ids room:Int}(h:jx t ids room=0): ¬ku ids room=0∧dD t=true∧ ¬ku ids room<t.length∧kb t ids room=nk t ids.toNat (room/20).toNat:=by
 unfold jx at h
 split at h
 ·
  cases h
 ·
  rename_i hn
  split at h
  ·
   cases h
  ·
   rename_i hm
   have h1: ¬ku ids room=0:=fun e=>hn (.inr e)
   have h2:dD t=true:=by cases hr:dD t;exact absurd (.inl hr) hn;rfl
   exact⟨h1,h2,hm,(IW h1 h2 hm).2⟩
theorem VH{t:List Rt}{ids room:Int}(h: ¬jx t ids room=0):kb t ids room=[]:=by rw[kb,if_neg h]
theorem VI{t:List Rt}{ids room:Int}(h:jx t ids room=0):((kb t ids room).length:Int)=ids∧1≤ids∧ids≤64:=by
 obtain⟨h1,_,_,hV⟩:=Kx h
 have:=DD h1
 rw[hV,sA];omega
theorem VJ{t:List Rt}{ids room:Int}:(kb t ids room).length≤64∧ ∀x∈kb t ids room,x.length≤240:=by
 by_cases h:jx t ids room=0
 ·
  have h2:=VI h
  obtain⟨h1,_,_,hV⟩:=Kx h
  have hm:=DD h1
  refine⟨by omega,fun x hx=> ?_⟩
  rw[hV]at hx
  obtain⟨j,_,rfl⟩:=List.mem_map.1 hx
  have:=IQ t (room/20).toNat j
  omega
 ·
  rw[VH h];simp
end Go.Kb
namespace Go.Proofs.YtaipiecplldinaaGreat
open Go.aL Go.Kb
open Go.RowKit
theorem VK(w:World)(f:b0)(l:Sv)(ls:List Ch)(hf:Deep.bk (hp w) f)(hl:bM gf 20 (hp w) l ls)(ba:dK f.aF.ai∧f.aF.at_.xs.length≤1000000∧f.table.xs.length≤1000000):Calls Tryz.prog 35 #[.agg (bQ f),l.val] w fun e w'=> ∃zz:b0,e= .returned (.tuple #[.agg (bQ zz), .int .i64 ((jO (bw f) ls).2)])∧(bw zz=(jO (bw f) ls).1)∧Mem w [fz zz] w':=by
 have uF:bT w f:=⟨hf⟩
 have nt:Gv w l gf 20 ls:=⟨hl⟩
 have uK:=ba
 obtain⟨kQ,kr,np⟩:=ba
 refine aW (args:=[_,_]) Tryz.func35 rfl Tryz.ntmps35 rfl ?_
 change Cw _ _ _ _ _ [(0, .agg (bQ f)),(1,l.val)] []
 refine Gc ?_
 refine bL rfl fun b2=> ?_
 refine bx fun b4=> ?_
 refine Gs ?_
 refine Gc ?_
 refine Gs ?_
 refine bp rfl trivial fun E5 VL=> ?_
 refine Gs ?_
 refine ae (aU (v:=E5.sv.val) rfl rfl) ?_
 refine ae (aU (v:= .bool (ft (bw f))) rfl rfl) ?_
 iterate 2 refine Gs ?_
 refine Gc ?_
 iterate 2 refine Gs ?_
 refine Gc ?_
 refine aq rfl (fun h0=> ?_) (fun h0=> ?_)
 ·
  replace h0:=bz h0
  have hE:(jO (bw f) ls)=(bw f,1):=QT h0
  refine Gc ?_
  refine Gs ?_
  refine bp rfl uK fun iC Et=> ?_
  iterate 2 refine Gs ?_
  refine Gc ?_
  refine an (.inl rfl) (aZ rfl (bG rfl) (al rfl)) (fun w1 hw=> ?_)
  exact⟨iC,by rw[hE],by rw[hE];exact Et,ah.mem hw⟩
 ·
  replace h0:=bz h0
  have mn:lx E5=ly (bw f):=VL h0
  refine Gc ?_
  iterate 3 refine Gs ?_
  refine bp rfl np fun jC po=> ?_
  refine Gs ?_
  refine ae (aU (v:=jC.val) rfl rfl) ?_
  refine ae (aU (v:= .int .i64 (kc f.table.xs ls)) rfl rfl) ?_
  iterate 2 refine Gs ?_
  refine Gc ?_
  iterate 2 refine Gs ?_
  refine Gc ?_
  refine aq rfl (fun h1=> ?_) (fun h1=> ?_)
  ·
   replace h1:=bz h1
   have hE:(jO (bw f) ls)=(bw f,kc f.table.xs ls):=QU h0 h1
   refine Gc ?_
   refine Gs ?_
   refine bp rfl uK fun aC rf=> ?_
   iterate 3 refine Gs ?_
   refine Gc ?_
   refine an (.inl rfl) (aZ rfl (bG rfl) (al rfl)) (fun w1 hw=> ?_)
   exact⟨aC,by rw[hE],by rw[hE];exact rf,ah.mem hw⟩
  ·
   replace h1:=bz h1
   refine Gc ?_
   refine fw [10] [[],[],[],[],[],[],[],[],[],[],[],[10],[10],[10],[10],[10]] [0,1,2,3,4,5,6,7,8,9,10,11,12,13,14,15] _ (fun _ hw=>hw) (by kernel_rfl) (by kernel_rfl) ?_
   refine ak rfl (au rfl) ?_
   refine ak rfl (aA (o':=0) rfl rfl) ?_
   refine ak rfl (aA (o':=0) rfl rfl) ?_
   refine ak rfl (eE rfl) ?_
   refine nM rfl (bX rfl trivial) ?_
   refine ak rfl (aA (o':=0) rfl rfl) ?_
   refine ak rfl (aA (o':=0) rfl rfl) ?_
   refine ak rfl (aA (o':=1) rfl rfl) ?_
   refine ak rfl (bl rfl) ?_
   refine nM rfl (bX rfl trivial) ?_
   refine cK rfl (lT rfl trivial fun pt Kt=>⟨fun _ hw=>ah.mem hw,?_⟩)
   refine ak rfl (au rfl) ?_
   refine ak rfl (aU (v:=pt.sv.val) rfl rfl) ?_
   refine ak rfl (aU (v:= .int .i64 (jx (eO f.table.xs ls) (fe (cv f.aF.ai)) (du f.aF.ai.size))) rfl rfl) ?_
   refine ak rfl (aP rfl) ?_
   refine ak rfl (aP rfl) ?_
   refine Gc ?_
   iterate 2 refine Gs ?_
   refine Gc ?_
   refine aq rfl (fun h2=> ?_) (fun h2=> ?_)
   ·
    replace h2:=bz h2
    have hE:(jO (bw f) ls)=(bw f,(jx (eO f.table.xs ls) (fe (cv f.aF.ai)) (du f.aF.ai.size))):=QV h0 h1 h2
    refine Gc ?_
    refine Gs ?_
    refine bp rfl uK fun A7 E6=> ?_
    iterate 3 refine Gs ?_
    refine Gc ?_
    refine an (.inl rfl) (aZ rfl (bG rfl) (al rfl)) (fun w1 hw=> ?_)
    exact⟨A7,by rw[hE],by rw[hE];exact E6,ah.mem hw⟩
   ·
    replace h2:=bz h2
    have nS:lx pt=kP (bw f) ls:=Kt
    have xN:(ly (bw f)).length≤64:=QS _
    have ER:E5.xs.length≤1000000:=by rw[←mn,rM]at xN;omega
    have AZ:(kP (bw f) ls).length≤64∧ ∀x∈kP (bw f) ls,x.length≤240:=VJ
    have VM:pt.xs.length≤1000000:=by have:=AZ.1;rw[←nS,rM]at this;omega
    have VN: ∀x∈pt.xs,x.xs.length≤140737488355328:=fun x hx=>by
     have hm:x.xs∈lx pt:=List.mem_map_of_mem (f:=fun x:Sl UInt8=>x.xs) hx
     rw[nS]at hm
     have:=AZ.2 _ hm;omega
    refine Gc ?_
    iterate 2 refine Gs ?_
    refine bp rfl ⟨ER,VM,VN⟩ fun ot Ky=> ?_
    refine Gs ?_
    refine Gc ?_
    iterate 3 refine Gs ?_
    refine Gc ?_
    refine aq rfl (fun h3=> ?_) (fun h3=> ?_)
    ·
     replace h3:=bz h3
     have yx:jL (ly (bw f)) (kP (bw f) ls)=[]:=by rw[←mn,←nS,←Ky,tC,List.length_eq_zero_iff.1 (by omega:ot.xs.length=0)];rfl
     have hE:(jO (bw f) ls)=(⟨(bw f).aF,(eO f.table.xs ls)⟩,0):=QW h0 h1 h2 yx
     refine Gc ?_
     refine Gs ?_
     refine bp rfl uK fun A8 VO=> ?_
     refine Gs ?_
     refine Gc ?_
     iterate 2 refine Gs ?_
     refine dM (cs':=bQ (⟨A8.aF,⟨jC,(eO f.table.xs ls)⟩⟩:b0)) rfl rfl (by show 9<10;decide) (by first|rfl|exact Sv.one _) rfl ?_
     refine Gc ?_
     iterate 3 refine Gs ?_
     refine Gc ?_
     refine an (.inl rfl) (aZ rfl (bG rfl) (al rfl)) (fun w1 hw=> ?_)
     exact⟨(⟨A8.aF,⟨jC,(eO f.table.xs ls)⟩⟩:b0),by rw[hE],by rw[hE,←VO];rfl,VF (f:=A8) (ah.mem hw:Mem w [fz A8,own aw 19 jC (eO f.table.xs ls)] _)⟩
    ·
     replace h3:=bz h3
     have yx:jL (ly (bw f)) (kP (bw f) ls)=ot.xs.map br:=by rw[←mn,←nS,←Ky];rfl
     have VP: ¬jL (ly (bw f)) (kP (bw f) ls)=[]:=by rw[yx];intro h;have:=congrArg List.length h;rw[List.length_map,List.length_nil]at this;omega
     have VQ:ot.xs.length≤1000000:=by have:=congrArg List.length yx;have hq:=DH (ly (bw f)) (kP (bw f) ls) (max (ly (bw f)).length (kP (bw f) ls).length);rw[List.length_map]at this;have h7:=AZ.1;rw[jL]at this;omega
     have rj:=QX h0 h1 h2 VP
     rw[yx]at rj
     refine Gc ?_
     refine Gs ?_
     refine ae (eE rfl) ?_
     refine Gs ?_
     refine bp rfl ⟨kQ,kr,VQ⟩ fun dS Es=> ?_
     refine Gs ?_
     refine ae (aU (v:= .agg (bo (⟨dS.1,dS.2.1,dS.2.2.1,dS.2.2.2⟩:bI))) rfl rfl) ?_
     refine ae (aU (v:= .int .i64 ((gv (vv f.aF) (ot.xs.map br)).2)) rfl rfl) ?_
     refine bx fun ql=> ?_
     iterate 2 refine Gs ?_
     refine Gc ?_
     iterate 2 refine Gs ?_
     refine Gc ?_
     refine aq rfl (fun h4=> ?_) (fun h4=> ?_)
     ·
      replace h4:=bz h4
      have hE:(jO (bw f) ls)=(⟨(gv (vv f.aF) (ot.xs.map br)).1,f.table.xs⟩,(gv (vv f.aF) (ot.xs.map br)).2):=rj.trans (congrArg (fun z=>((⟨(gv (vv f.aF) (ot.xs.map br)).1,z⟩:FV),(gv (vv f.aF) (ot.xs.map br)).2)) (if_pos h4))
      refine Gi ?_
      iterate 2 refine Gs ?_
      refine bp rfl np fun wo afA=> ?_
      refine Gs ?_
      refine Gc ?_
      iterate 2 refine Gs ?_
      refine ae (bV (v:= .agg (bQ (⟨(⟨dS.1,dS.2.1,dS.2.2.1,dS.2.2.2⟩:bI),⟨wo,f.table.xs⟩⟩:b0))) rfl (A5 (⟨dS.1,dS.2.1,dS.2.2.1,dS.2.2.2⟩:bI) ⟨wo,f.table.xs⟩)) ?_
      iterate 3 refine Gs ?_
      refine Gc ?_
      refine an (.inl rfl) (aZ rfl (bG rfl) (al rfl)) (fun w1 hw=> ?_)
      exact⟨(⟨(⟨dS.1,dS.2.1,dS.2.2.1,dS.2.2.2⟩:bI),⟨wo,f.table.xs⟩⟩:b0),by rw[hE],by rw[hE];simp only[bw,vv,Es],Av (f:=(⟨(⟨dS.1,dS.2.1,dS.2.2.1,dS.2.2.2⟩:bI),⟨wo,f.table.xs⟩⟩:b0)) (ah.mem (xI (a:=(⟨wo,f.table.xs⟩:Sl Rt)) (ah.mem hw:Mem w [own aw 19 wo f.table.xs,fz dS.1,fz dS.2.1] _)))⟩
     ·
      replace h4:=bz h4
      have hE:(jO (bw f) ls)=(⟨(gv (vv f.aF) (ot.xs.map br)).1,(eO f.table.xs ls)⟩,(gv (vv f.aF) (ot.xs.map br)).2):=rj.trans (congrArg (fun z=>((⟨(gv (vv f.aF) (ot.xs.map br)).1,z⟩:FV),(gv (vv f.aF) (ot.xs.map br)).2)) (if_neg (fun h=>h h4)))
      refine Gc ?_
      iterate 2 refine Gs ?_
      refine ae (bV (v:= .agg (bQ (⟨(⟨dS.1,dS.2.1,dS.2.2.1,dS.2.2.2⟩:bI),⟨jC,(eO f.table.xs ls)⟩⟩:b0))) rfl (A5 (⟨dS.1,dS.2.1,dS.2.2.1,dS.2.2.2⟩:bI) ⟨jC,(eO f.table.xs ls)⟩)) ?_
      iterate 3 refine Gs ?_
      refine Gc ?_
      refine an (.inl rfl) (aZ rfl (bG rfl) (al rfl)) (fun w1 hw=> ?_)
      exact⟨(⟨(⟨dS.1,dS.2.1,dS.2.2.1,dS.2.2.2⟩:bI),⟨jC,(eO f.table.xs ls)⟩⟩:b0),by rw[hE],by rw[hE];simp only[bw,vv,Es],Av (f:=(⟨(⟨dS.1,dS.2.1,dS.2.2.1,dS.2.2.2⟩:bI),⟨jC,(eO f.table.xs ls)⟩⟩:b0)) (ah.mem (xI (a:=(⟨jC,(eO f.table.xs ls)⟩:Sl Rt)) (ah.mem hw:Mem w [own aw 19 jC (eO f.table.xs ls),fz dS.1,fz dS.2.1] _)))⟩
instance afB{w0:World}{L:List aj}{f:b0}{l:Sv}{ls:List Ch}[hf:aS w0 L f][hl:cl w0 L gf 20 l ls]:bW Tryz.prog 35 w0 L [.agg (bQ f),l.val] (b0) (fun zz=> .tuple #[.agg (bQ zz), .int .i64 ((jO (bw f) ls).2)]) (fun zz=>fz zz::L) (fun zz=>bw zz=(jO (bw f) ls).1) (dK f.aF.ai∧f.aF.at_.xs.length≤1000000∧f.table.xs.length≤1000000):=⟨fun hp w hw=>(VK w f l ls (hf.h w hw) (hl.h w hw) hp).mono fun e w' ⟨x,h1,h2,h3⟩=>⟨x,h1,h2,hw.call h3⟩⟩
open Go.aL Go.Kb
open Go.RowKit
theorem VR(w:World)(b:Sv)(bs:List UInt8)(hb:bM aJ 1 (hp w) b bs):Calls Tryz.prog 157 #[b.val] w fun e w'=>e= .returned (.int .u32 (gp bs:Nat))∧Mem w [] w':=by
 have nq:Gv w b aJ 1 bs:=⟨hb⟩
 have fJ:=hb.bd
 refine aW (args:=[_]) Tryz.func157 rfl Tryz.ntmps157 rfl ?_
 change Cw _ _ _ _ _ [(0,b.val)] []
 refine Gc ?_
 refine Gs ?_
 refine Gc ?_
 refine Gs ?_
 refine Gc ?_
 refine Gs ?_
 refine Gc ?_
 refine bK (X:=Nat) (fun zz=>[(4, .int .i64 (zz:Nat)),(3, .int .u32 (eG 4294967295 (bs.take zz):Nat)),(0,b.val)]) (fun zz=>[]) (fun zz=>zz≤bs.length) (fun zz=>bs.length -zz) 0 (Nat.zero_le _) (Sub.cons rfl (Sub.cons rfl (Sub.cons rfl (Sub.nil _)))) (fun w hw=>ah.mem hw) ?_
 rintro i hi
 have bB:eG 4294967295 (bs.take i)<2^32:=tL (by decide) _
 refine Gc ?_
 iterate 4 refine Gs ?_
 refine Gc ?_
 refine aq rfl (fun h0=> ?_) (fun h0=> ?_)
 ·
  replace h0:=bz h0
  obtain⟨y,he⟩:=get_some (xs:=bs) (i:=i) (by omega)
  have hy:=y.toNat_lt
  have dr:eG 4294967295 (bs.take i)^^^y.toNat<2^32:=Nat.xor_lt_two_pow (tL (by decide) _) (by omega)
  refine Gc ?_
  iterate 3 refine Gs ?_
  refine ae (aX rfl rfl i rfl (by omega)) ?_
  refine ae (bn (j:=0) rfl i he rfl (by decide)) ?_
  refine ae (mw rfl (by simp only[nb];omega)) ?_
  refine ae (yW rfl rfl rfl rfl (by simp only[nb];omega) (by simp only[nb];omega)) ?_
  refine Gs ?_
  refine Gc ?_
  refine Gs ?_
  refine Gc ?_
  refine bK (X:=Nat) (fun zz=>[(5, .int .i64 (zz:Nat)),(3, .int .u32 ((ia (eG 4294967295 (bs.take i)^^^y.toNat) zz):Nat)),(0,b.val),(4, .int .i64 (i:Nat))]) (fun zz=>[]) (fun zz=>zz≤8) (fun zz=>8 -zz) 0 (Nat.zero_le _) (Sub.cons rfl (Sub.cons rfl (Sub.cons rfl (Sub.cons rfl (Sub.nil _))))) (fun w hw=>ah.mem hw) ?_
  rintro k hk
  refine Gc ?_
  iterate 2 refine Gs ?_
  refine Gc ?_
  refine aq rfl (fun h1=> ?_) (fun h1=> ?_)
  ·
   replace h1:=bz h1
   have rU:(ia (eG 4294967295 (bs.take i)^^^y.toNat) k)<2^32:=zB dr k
   have D2:(ia (eG 4294967295 (bs.take i)^^^y.toNat) k)/2<2^32:=by omega
   refine Gc ?_
   refine Gs ?_
   refine ae (uY (p:=(ia (eG 4294967295 (bs.take i)^^^y.toNat) k)) (q:=2) rfl rfl rfl rfl (by decide)) ?_
   iterate 2 refine Gs ?_
   refine Gc ?_
   refine Gs ?_
   refine ae (FU (p:=(ia (eG 4294967295 (bs.take i)^^^y.toNat) k)) (q:=2) rfl rfl rfl rfl (by simp only[nb];omega) (by decide)) ?_
   refine Gs ?_
   refine Gc ?_
   refine Gs ?_
   refine Gc ?_
   refine aq rfl (fun h2=> ?_) (fun h2=> ?_)
   ·
    replace h2:=bz h2
    have E7:(ia (eG 4294967295 (bs.take i)^^^y.toNat) k)%2=1:=by omega
    refine Gi ?_
    refine Gs ?_
    refine ae (yW (p:=(ia (eG 4294967295 (bs.take i)^^^y.toNat) k)/2) (q:=3988292384) rfl rfl rfl rfl (by simp only[nb];omega) (by decide)) ?_
    refine Gs ?_
    refine Gc ?_
    iterate 3 refine Gs ?_
    refine Gi ?_
    exact bh (x:=(k)) (k+1) (by first|omega|(simp only[];omega)) (by first|omega|(simp only[];omega)) (Sub.cons rfl (Sub.cons (look_eq rfl (by rw[ia,xm,if_pos E7];rfl)) (Sub.cons rfl (Sub.cons rfl (Sub.nil _))))) (fun w hw=>ah.mem hw)
   ·
    replace h2:=bz h2
    have E7: ¬(ia (eG 4294967295 (bs.take i)^^^y.toNat) k)%2=1:=by omega
    refine Gc ?_
    iterate 3 refine Gs ?_
    refine Gi ?_
    exact bh (x:=(k)) (k+1) (by first|omega|(simp only[];omega)) (by first|omega|(simp only[];omega)) (Sub.cons rfl (Sub.cons (look_eq rfl (by rw[ia,xm,if_neg E7,Nat.xor_zero])) (Sub.cons rfl (Sub.cons rfl (Sub.nil _))))) (fun w hw=>ah.mem hw)
  ·
   replace h1:=bz h1
   obtain rfl:k=8:=by omega
   refine Gc ?_
   iterate 3 refine Gs ?_
   refine Gi ?_
   exact bh (x:=(i)) (i+1) (by first|omega|(simp only[];omega)) (by first|omega|(simp only[];omega)) (Sub.cons rfl (Sub.cons (look_eq rfl (by rw[G5 he];rfl)) (Sub.cons rfl (Sub.nil _)))) (fun w hw=>ah.mem hw)
 ·
  replace h0:=bz h0
  obtain rfl:i=bs.length:=by omega
  have afC:eG 4294967295 (bs.take bs.length)<2^32:=tL (by decide) _
  refine Gc ?_
  refine Gs ?_
  refine ae (Ry.to (v':= .int .u32 ((4294967295 -eG 4294967295 (bs.take bs.length):Nat):Int)) (bt rfl rfl rfl) (by rw[show(4294967295:Int) -((eG 4294967295 (bs.take bs.length):Nat):Int)=((4294967295 -eG 4294967295 (bs.take bs.length):Nat):Int) by omega,mv (k:= .u32) (by simp only[nb];omega)])) ?_
  refine Gs ?_
  refine Gc ?_
  refine an (.inl rfl) (aK rfl (al rfl)) (fun w1 hw=> ?_)
  exact⟨(by rw[List.take_length];rfl),ah.mem hw⟩
instance afD{w0:World}{L:List aj}{b:Sv}{bs:List UInt8}[hb:cl w0 L aJ 1 b bs]:bU Tryz.prog 157 w0 L [b.val] (.int .u32 (gp bs:Nat)) (True):=⟨fun hp w hw=>VR w b bs (hb.h w hw)⟩
theorem VS(w:World)(b:Sv)(bs:List UInt8)(hb:bM aJ 1 (hp w) b bs)(ba:bs.length≤900000):Calls Tryz.prog 138 #[b.val] w fun e w'=> ∃zz:Sv,e= .returned (zz.val)∧(True)∧Mem w [own aJ 1 zz (xn bs)] w':=by
 have nq:Gv w b aJ 1 bs:=⟨hb⟩
 have wO:=zC bs
 refine aW (args:=[_]) Tryz.func138 rfl Tryz.ntmps138 rfl ?_
 change Cw _ _ _ _ _ [(0,b.val)] []
 refine Gc ?_
 refine Gs ?_
 refine Gc ?_
 refine qD aJ fun b3=> ?_
 refine Gs ?_
 refine jG (s:=⟨false,b3,0,0,0,none⟩) (ys:=bs) rfl rfl (by decide) (fun w hw=>gX (s:=b) Tryz.underlying38 (by decide) ((inferInstance:Hd _ _ b aJ 1 bs).h w hw)) (by simp only[List.length_nil];omega) (by simp only[List.length_nil];omega) fun s5 hs5 hl5=> ?_
 iterate 2 refine Gs ?_
 refine ae (mw rfl (by simp only[nb];omega)) ?_
 refine bp (vs:=[_, .int .i64 ((4:Nat):Int)]) rfl ⟨by omega,by omega⟩ fun x9 vW=> ?_
 refine jG (s:=s5) (ys:=(be (gp bs) 4)) rfl rfl (by decide) (fun w hw=>gX (s:=x9) Tryz.underlying38 (by decide) ((inferInstance:Hd _ _ x9 aJ 1 (be (gp bs) 4)).h w hw)) (by simp only[List.nil_append,jl];omega) (by simp only[List.nil_append,jl];omega) fun VT afE afF=> ?_
 refine Gs ?_
 refine Gc ?_
 refine an (.inl rfl) (aK rfl (al rfl)) (fun w1 hw=> ?_)
 exact⟨VT,rfl,trivial,by rw[xn];rw[List.nil_append]at hw;exact ah.mem hw⟩
instance afG{w0:World}{L:List aj}{b:Sv}{bs:List UInt8}[hb:cl w0 L aJ 1 b bs]:bW Tryz.prog 138 w0 L [b.val] (Sv) (fun zz=>zz.val) (fun zz=>own aJ 1 zz (xn bs)::L) (fun zz=>True) (bs.length≤900000):=⟨fun hp w hw=>(VS w b bs (hb.h w hw) hp).mono fun e w' ⟨x,h1,h2,h3⟩=>⟨x,h1,h2,hw.call h3⟩⟩
theorem VU(w:World)(b:Sv)(bs:List UInt8)(hb:bM aJ 1 (hp w) b bs)(ba:bs.length≤900000):Calls Tryz.prog 98 #[b.val] w fun e w'=>e= .returned (.tuple #[(ve b bs).val, .int .i64 (oP bs)])∧Mem w [] w':=by
 have nq:Gv w b aJ 1 bs:=⟨hb⟩
 refine aW (args:=[_]) Tryz.func98 rfl Tryz.ntmps98 rfl ?_
 change Cw _ _ _ _ _ [(0,b.val)] []
 refine Gc ?_
 iterate 2 refine Gs ?_
 refine Gc ?_
 iterate 3 refine Gs ?_
 refine Gc ?_
 refine aq rfl (fun h0=> ?_) (fun h0=> ?_)
 ·
  replace h0:=bz h0
  have he:oP bs=3:=if_pos (by omega)
  refine Gc ?_
  iterate 2 refine Gs ?_
  refine Gc ?_
  refine an (.inl rfl) (aZ rfl (al rfl) (al rfl)) (fun w1 hw=> ?_)
  exact⟨(by rw[ve,if_neg (by rw[he];decide),he];rfl),ah.mem hw⟩
 ·
  replace h0:=bz h0
  have hlen: ¬bs.length<4:=by omega
  have ht:((bs.drop 0).take (bs.length -4 -0))=bs.take (bs.length -4):=by simp
  refine Gc ?_
  refine fw [5] [[],[],[],[],[],[],[5],[],[],[5]] [0,1,2,3,4,7,8,5,6,9] _ (fun _ hw=>hw) (by kernel_rfl) (by kernel_rfl) ?_
  refine ak rfl (au rfl) ?_
  refine ak rfl (au rfl) ?_
  refine ak rfl (iT rfl) ?_
  refine ak rfl (qx rfl rfl (by omega)) ?_
  have VW:Rg 0 (bs.length -4) bs.length:=⟨by omega⟩
  refine ak rfl (wU rfl rfl (bs.length -4) (by omega) VW.h.2) ?_
  refine ak rfl (au rfl) ?_
  refine ak rfl (u2 Tryz.underlying38 Tryz.underlying5 Tryz.underlying9 rfl) ?_
  refine GV rfl (lT rfl (by rw[ht,List.length_take];omega) fun fE oo=>⟨_,fun _ h=>h,fun _ hw=>ah.mem hw,?_⟩)
  refine ak rfl (u2 Tryz.underlying38 Tryz.underlying5 Tryz.underlying9 rfl) ?_
  refine ak rfl (F0 rfl rfl) ?_
  refine Gc ?_
  refine aq rfl (fun h1=> ?_) (fun h1=> ?_)
  ·
   replace h1:=bz h1
   have he:oP bs=4:=by rw[oP,if_neg hlen,if_neg];rw[←He hlen,←ht];exact h1
   refine Gc ?_
   iterate 2 refine Gs ?_
   refine Gc ?_
   refine an (.inl rfl) (aZ rfl (al rfl) (al rfl)) (fun w1 hw=> ?_)
   exact⟨(by rw[ve,if_neg (by rw[he];decide),he];rfl),ah.mem hw⟩
  ·
   replace h1:=bz h1
   have he:oP bs=0:=by rw[oP,if_neg hlen,if_pos];rw[←He hlen,←ht];exact h1
   refine Gc ?_
   iterate 4 refine Gs ?_
   have VX:Rg 0 (bs.length -4) bs.length:=⟨by omega⟩
   refine ae (wU rfl rfl (bs.length -4) (by omega) VX.h.2) ?_
   iterate 2 refine Gs ?_
   refine Gc ?_
   refine an (.inl rfl) (aZ rfl (al rfl) (al rfl)) (fun w1 hw=> ?_)
   exact⟨(by rw[ve,if_pos he,he]),ah.mem hw⟩
instance afH{w0:World}{L:List aj}{b:Sv}{bs:List UInt8}[hb:cl w0 L aJ 1 b bs]:bU Tryz.prog 98 w0 L [b.val] (.tuple #[(ve b bs).val, .int .i64 (oP bs)]) (bs.length≤900000):=⟨fun hp w hw=>VU w b bs (hb.h w hw) hp⟩
theorem VY(w:World)(n:Int):Calls Tryz.prog 61 #[.int .i64 n] w fun e w'=>e= .returned (.int .i64 (du n))∧Mem w [] w':=by
 refine aW (args:=[_]) Tryz.func61 rfl Tryz.ntmps61 rfl ?_
 change Cw _ _ _ _ _ [(0, .int .i64 n)] []
 refine Gc ?_
 refine Gs ?_
 refine Gc ?_
 iterate 3 refine Gs ?_
 iterate 2 refine Gg ?_
 refine Gs ?_
 refine Gc ?_
 refine aq rfl (fun h0=> ?_) (fun h0=> ?_)
 ·
  replace h0:=bz h0
  refine Gc ?_
  refine Gs ?_
  refine Gc ?_
  refine an (.inl rfl) (aK rfl (al rfl)) (fun w1 hw=> ?_)
  exact⟨congrArg (fun b=>Ending.returned (Value.int .i64 b)) ((by
   rw[du,if_neg (fun h=>by have:=oU.1 h;omega)])),ah.mem hw⟩
 ·
  replace h0:=bz h0
  refine Gc ?_
  iterate 3 refine Gs ?_
  refine Gc ?_
  refine an (.inl rfl) (aK rfl (al rfl)) (fun w1 hw=> ?_)
  exact⟨congrArg (fun b=>Ending.returned (Value.int .i64 b)) ((by rw[du,if_pos (oU.2 (by omega))])),ah.mem hw⟩
instance afI{w0:World}{L:List aj}{n:Int}:bU Tryz.prog 61 w0 L [.int .i64 n] (.int .i64 (du n)) (True):=⟨fun hp w hw=>VY w n⟩
theorem VZ(w:World)(b:Sv)(bs:List UInt8)(hb:bM aJ 1 (hp w) b bs):Calls Tryz.prog 97 #[b.val] w fun e w'=>e= .returned (.bool (eW bs))∧Mem w [] w':=by
 have nq:Gv w b aJ 1 bs:=⟨hb⟩
 have fJ:=hb.bd
 refine aW (args:=[_]) Tryz.func97 rfl Tryz.ntmps97 rfl ?_
 change Cw _ _ _ _ _ [(0,b.val)] []
 refine Gc ?_
 refine Gs ?_
 refine Gc ?_
 refine Gs ?_
 refine Gc ?_
 refine bK (X:=Nat) (fun zz=>[(3, .int .i64 (zz:Nat)),(0,b.val)]) (fun zz=>[]) (fun zz=>zz≤bs.length∧ ∀j x,j<zz→bs[j]? =Option.some x→x=255) (fun zz=>bs.length -zz) 0 ⟨Nat.zero_le _,fun j x hj=>by first|omega|(simp only[];omega)⟩ (Sub.cons rfl (Sub.cons rfl (Sub.nil _))) (fun w hw=>ah.mem hw) ?_
 rintro i ⟨bb,aH⟩
 refine Gc ?_
 iterate 4 refine Gs ?_
 refine Gc ?_
 refine aq rfl (fun h0=> ?_) (fun h0=> ?_)
 ·
  replace h0:=bz h0
  refine Gc ?_
  iterate 2 refine Gs ?_
  obtain⟨y,hy⟩:=get_some (xs:=bs) (i:=i) (by omega)
  refine ae (aX rfl rfl i rfl (by omega)) ?_
  refine ae (bn (j:=0) rfl i hy rfl (by decide)) ?_
  refine Gs ?_
  refine Gc ?_
  refine aq rfl (fun h1=> ?_) (fun h1=> ?_)
  ·
   replace h1:=bz h1
   have hz:eW bs=false:=by
    cases hk:eW bs with
    |false=>rfl
    |true=>exact absurd (congrArg UInt8.toNat (zV.1 hk y (List.mem_of_getElem? hy))) (by have:(255:UInt8).toNat=255:=rfl;omega)
   refine Gc ?_
   refine Gs ?_
   refine Gc ?_
   refine an (.inl rfl) (aK rfl (al rfl)) (fun w1 hw=> ?_)
   exact⟨congrArg (fun b=>Ending.returned (Value.bool b)) (hz.symm),ah.mem hw⟩
  ·
   replace h1:=bz h1
   have xL:y=255:=UInt8.toNat_inj.1 (by have:(255:UInt8).toNat=255:=rfl;omega)
   refine Gc ?_
   iterate 3 refine Gs ?_
   refine Gi ?_
   exact bh (x:=(i)) (i+1) ⟨by first|omega|(simp only[];omega),fun j x hj hx=>if e:j=i then(by subst e;rw[hy]at hx;cases hx;exact xL)else aH j x (by first|omega|(simp only[];omega)) hx⟩ (by first|omega|(simp only[];omega)) (Sub.cons rfl (Sub.cons rfl (Sub.nil _))) (fun w hw=>ah.mem hw)
 ·
  replace h0:=bz h0
  obtain rfl:i=bs.length:=by omega
  have hz:eW bs=true:=zV.2 fun x hx=>by
   obtain⟨j,hj⟩:=List.getElem?_of_mem hx
   exact aH j x (List.getElem?_eq_some_iff.1 hj).1 hj
  refine Gc ?_
  refine Gs ?_
  refine Gc ?_
  refine an (.inl rfl) (aK rfl (al rfl)) (fun w1 hw=> ?_)
  exact⟨congrArg (fun b=>Ending.returned (Value.bool b)) (hz.symm),ah.mem hw⟩
instance afJ{w0:World}{L:List aj}{b:Sv}{bs:List UInt8}[hb:cl w0 L aJ 1 b bs]:bU Tryz.prog 97 w0 L [b.val] (.bool (eW bs)) (True):=⟨fun hp w hw=>VZ w b bs (hb.h w hw)⟩
theorem V0(k i:Int)(g:UInt64)(s:Sv)(xs:List UInt8)(w:World):(Instr.build 110 #[(0, .int .i64 k),(1, .int .i64 i),(2, .int .u64 (g.toNat:Int)),(3,s.val)]).run Tryz.prog w= .ok (.agg (bZ ⟨k,i,g,⟨s,xs⟩⟩)) w:=by
 obtain⟨e,b,o,l,c,p⟩:=s
 unfold bZ
 cases e<;>kernel_rfl
theorem V1(w:World)(b:Sv)(bs:List UInt8)(hb:bM aJ 1 (hp w) b bs):Calls Tryz.prog 50 #[b.val] w fun e w'=>e= .returned (.tuple #[.agg (bZ (dw b bs)), .int .i64 ((bm bs).2)])∧Mem w [] w':=by
 have nq:Gv w b aJ 1 bs:=⟨hb⟩
 have fJ:=hb.bd
 have RX:=CT bs
 have uu:=zW bs
 have dC:jq bs.length=true↔24≤bs.length∧bs.length≤256:=by rw[oU];omega
 refine aW (args:=[_]) Tryz.func50 rfl Tryz.ntmps50 rfl ?_
 change Cw _ _ _ _ _ [(0,b.val)] []
 refine Gc ?_
 refine bx fun b2=> ?_
 refine Gs ?_
 refine Gc ?_
 refine ae (bV (v:= .agg (bZ gF)) rfl (fun w=>by kernel_rfl)) ?_
 refine bx fun b4=> ?_
 refine Gs ?_
 refine Gc ?_
 iterate 4 refine Gs ?_
 iterate 3 refine Gg ?_
 refine Gs ?_
 refine Gc ?_
 refine aq rfl (fun h0=> ?_) (fun h0=> ?_)
 ·
  replace h0:=bz h0
  have hE:bm bs=(gq,3):=by rw[bm,if_pos (by
   cases hk:jq bs.length with
   |false=>rfl
   |true=>have:=dC.1 hk;omega)]
  refine Gc ?_
  iterate 3 refine Gs ?_
  refine Gc ?_
  refine an (.inl rfl) (aZ rfl (bG rfl) (al rfl)) (fun w1 hw=> ?_)
  exact⟨(by rw[dw,if_neg (by rw[nX,hE];simp),hE]),ah.mem hw⟩
 ·
  replace h0:=bz h0
  have hf:jq bs.length=true:=dC.2 ⟨by omega,by omega⟩
  have afK:=dC.1 hf
  have rp: ¬jq bs.length=false:=by rw[hf];simp
  have hK:hH bs=bs.take (bs.length -4):=by rw[hH];simp
  have AM:pV bs=bs.drop (bs.length -4):=List.take_of_length_le (by simp)
  refine Gc ?_
  iterate 2 refine Gs ?_
  refine Gc ?_
  refine aq rfl (fun h1=> ?_) (fun h1=> ?_)
  ·
   replace h1:=bz h1
   have hE:bm bs=(gq,0):=by rw[bm,if_neg rp,if_pos h1]
   have lS:nX bs=false:=by rw[nX,h1];simp
   refine Gc ?_
   iterate 3 refine Gs ?_
   refine Gc ?_
   refine an (.inl rfl) (aZ rfl (bG rfl) (al rfl)) (fun w1 hw=> ?_)
   exact⟨(by rw[dw,if_neg (by rw[lS];simp),hE]),ah.mem hw⟩
  ·
   replace h1:=bz h1
   have cO: ¬eW bs=true:=by rw[h1];simp
   have eA:oP bs=0↔de (pV bs)=gp (hH bs):=by
    rw[oP,if_neg (by omega),hK,AM]
    split
    ·
     rename_i h;exact⟨fun _=>h.symm,fun _=>rfl⟩
    ·
     rename_i h;exact⟨fun g=>absurd g (by decide),fun g=>absurd g.symm h⟩
   refine Gc ?_
   refine Gs ?_
   refine dQ (bX rfl (by omega)) ?_
   refine Gs ?_
   refine ae (aU (v:=(ve b bs).val) rfl rfl) ?_
   refine ae (aU (v:= .int .i64 (oP bs)) rfl rfl) ?_
   iterate 2 refine Gs ?_
   refine Gc ?_
   iterate 2 refine Gs ?_
   refine Gc ?_
   refine aq rfl (fun h2=> ?_) (fun h2=> ?_)
   ·
    replace h2:=bz h2
    have hE:bm bs=(gq,4):=by rw[bm,if_neg rp,if_neg cO,if_pos (fun g=>h2 (eA.2 g))]
    refine Gc ?_
    iterate 3 refine Gs ?_
    refine Gc ?_
    refine an (.inl rfl) (aZ rfl (bG rfl) (al rfl)) (fun w1 hw=> ?_)
    exact⟨(by rw[dw,if_neg (by rw[nX,hE];simp),hE]),ah.mem hw⟩
   ·
    replace h2:=bz h2
    have hs: ¬de (pV bs)≠gp (hH bs):=fun g=>g (eA.1 h2)
    have Kz:256*(bs.getD 8 0).toNat+(bs.getD 9 0).toNat=dm bs:=by rw[dm,Py (by omega)]
    have sJ:du bs.length=bs.length -16:=by rw[du,if_pos hf]
    have E8:iX bs=true↔dm bs+16≤bs.length∧((bs.getD 0 0).toNat=1∨(bs.getD 0 0).toNat=2)∧(bs.getD 1 0).toNat<64:=by
     rw[iX,Bool.and_eq_true,decide_eq_true_eq,sJ,zU,sJ]
     simp only[r8,List.length_nil]
     constructor
     ·
      rintro⟨g1,_,g2,_,g3,_⟩;exact⟨by omega,by omega,by omega⟩
     ·
      rintro⟨g1,g2,g3⟩;exact⟨by omega,hf,by omega,by omega,by omega,uu,by omega⟩
    have qp:(bs.getD 0 0).toNat<256:=UInt8.toNat_lt _
    have qq:(bs.getD 1 0).toNat<256:=UInt8.toNat_lt _
    refine Gc ?_
    refine eF (by kernel_rfl) (by kernel_rfl) ?_
    refine Gq ?_
    refine aT (aX rfl rfl 8 rfl (by omega)) ?_
    refine aT (bn (j:=0) rfl 8 (iU (xs:=bs) (i:=8) (d:=0) (by omega)) rfl (by decide)) ?_
    refine aT (nH rfl) ?_
    refine aT (nE rfl rfl (by omega)) ?_
    refine Gq ?_
    refine aT (aX rfl rfl 9 rfl (by omega)) ?_
    refine aT (bn (j:=0) rfl 9 (iU (xs:=bs) (i:=9) (d:=0) (by omega)) rfl (by decide)) ?_
    refine aT (nH rfl) ?_
    iterate 2 refine Gq ?_
    refine Gc ?_
    refine Gs ?_
    refine ae (aX rfl rfl 0 rfl (by omega)) ?_
    refine ae (bn (j:=0) rfl 0 (iU (xs:=bs) (i:=0) (d:=0) (by omega)) rfl (by decide)) ?_
    iterate 2 refine Gs ?_
    refine Gg ?_
    refine dG rfl rfl rfl (fun hg=>(Ry.yl (aX (av hg rfl) rfl 0 rfl (by simp only[Z0,Z1,Z2,Z3,Z4,Z5,Z6,Z7,Z8,Z9]at hg;omega)))) ?_
    refine dG rfl rfl rfl (fun hg=>(Ry.yl (bn (j:=0) (av hg rfl) 0 (iU (xs:=bs) (i:=0) (d:=0) (by omega)) rfl (by decide)))) ?_
    refine Gg ?_
    iterate 2 refine Gs ?_
    refine Gg ?_
    refine bD rfl rfl rfl (fun hg=>(Ry.yl (aX (av hg rfl) rfl 1 rfl (by simp only[Z0,Z1,Z2,Z3,Z4,Z5,Z6,Z7,Z8,Z9]at hg;omega)))) ?_
    refine bD rfl rfl rfl (fun hg=>(Ry.yl (bn (j:=0) (av hg rfl) 1 (iU (xs:=bs) (i:=1) (d:=0) (by omega)) rfl (by decide)))) ?_
    refine Gg ?_
    iterate 2 refine Gs ?_
    iterate 3 refine Gg ?_
    refine bD rfl rfl rfl (fun hg=>(Ry.yl (qx (av hg rfl) rfl (by simp only[Z0,Z1,Z2,Z3,Z4,Z5,Z6,Z7,Z8,Z9]at hg;omega)))) ?_
    refine Gg ?_
    refine Gs ?_
    refine Gc ?_
    refine aq rfl (fun h3=> ?_) (fun h3=> ?_)
    ·
     replace h3:=bz h3
     have hE:bm bs=(gq,2):=by
      rw[bm,if_neg rp,if_neg cO,if_neg hs,if_pos]
      cases hk:iX bs with
      |false=>rfl
      |true=>have:=E8.1 hk;omega
     refine Gc ?_
     iterate 3 refine Gs ?_
     refine Gc ?_
     refine an (.inl rfl) (aZ rfl (bG rfl) (al rfl)) (fun w1 hw=> ?_)
     exact⟨(by rw[dw,if_neg (by rw[nX,hE];simp),hE]),ah.mem hw⟩
    ·
     replace h3:=bz h3
     have gw:iX bs=true:=E8.2 ⟨by omega,by omega,by omega⟩
     have KA: ¬iX bs=false:=by rw[gw];simp
     have gm:=CY bs
     have Az:=(E8.1 gw).1
     have n8:oV (j6 bs)=true↔ ∀j,10+dm bs≤j→j<bs.length -4→bs.getD j 0=0:=Pz (by omega)
     refine Gc ?_
     iterate 3 refine Gs ?_
     refine Gc ?_
     refine bK (X:=Nat) (fun zz=>[(8, .int .i64 (zz:Nat)),(0,b.val),(2, .pointer (some ⟨b2,0,none⟩)),(4, .pointer (some ⟨b4,0,none⟩)),(7, .int .i64 ((256*(bs.getD 8 0).toNat+(bs.getD 9 0).toNat):Nat))]) (fun zz=>[ar b4 (bZ gF) 110,ar b2 (bZ gF) 110]) (fun zz=>10+dm bs≤zz∧zz≤bs.length -4∧ ∀j,10+dm bs≤j→j<zz→bs.getD j 0=0) (fun zz=>bs.length -zz) (10+dm bs) ⟨Nat.le_refl _,by first|omega|(simp only[];omega),fun j h1 h2=>by first|omega|(simp only[];omega)⟩ (Sub.cons (look_eq rfl (by rw[←Kz];rfl)) (Sub.cons rfl (Sub.cons rfl (Sub.cons rfl (Sub.cons rfl (Sub.nil _)))))) (fun w hw=>ah.mem hw) ?_
     rintro i ⟨bb,aH,bu⟩
     refine Gc ?_
     iterate 5 refine Gs ?_
     refine Gc ?_
     refine aq rfl (fun h4=> ?_) (fun h4=> ?_)
     ·
      replace h4:=bz h4
      have yu:i<bs.length -4:=by omega
      refine Gc ?_
      iterate 2 refine Gs ?_
      obtain⟨y,hy⟩:=get_some (xs:=bs) (i:=i) (by omega)
      refine ae (aX rfl rfl i rfl (by omega)) ?_
      refine ae (bn (j:=0) rfl i hy rfl (by decide)) ?_
      have wq:bs.getD i 0=y:=by simp[List.getD,hy]
      refine Gs ?_
      refine Gc ?_
      refine aq rfl (fun h5=> ?_) (fun h5=> ?_)
      ·
       replace h5:=bz h5
       have hE:bm bs=(gq,2):=by
        rw[bm,if_neg rp,if_neg cO,if_neg hs,if_neg KA,if_pos]
        cases hk:oV (j6 bs)with
        |false=>rfl
        |true=>have:=n8.1 hk i (by omega) yu;rw[wq]at this;rw[this]at h5;exact absurd rfl h5
       refine Gc ?_
       iterate 3 refine Gs ?_
       refine Gc ?_
       refine an (.inl rfl) (aZ rfl (bG rfl) (al rfl)) (fun w1 hw=> ?_)
       exact⟨(by rw[dw,if_neg (by rw[nX,hE];simp),hE]),ah.mem hw⟩
      ·
       replace h5:=bz h5
       have qA:y=0:=UInt8.toNat_inj.1 (by have:(0:UInt8).toNat=0:=rfl;omega)
       refine Gc ?_
       iterate 3 refine Gs ?_
       refine Gi ?_
       exact bh (x:=(i)) (i+1) ⟨by first|omega|(simp only[];omega),by first|omega|(simp only[];omega),fun j h1 h2=>if e:j=i then(by subst e;rw[wq,qA])else bu j h1 (by first|omega|(simp only[];omega))⟩ (by first|omega|(simp only[];omega)) (Sub.cons rfl (Sub.cons rfl (Sub.cons rfl (Sub.cons rfl (Sub.cons rfl (Sub.nil _)))))) (fun w hw=>ah.mem hw)
     ·
      replace h4:=bz h4
      have V2:oV (j6 bs)=true:=n8.2 fun j h1 h2=>bu j h1 (by omega)
      have hE:bm bs=({r8 bs with body:=(bs.drop 10).take (10+dm bs -10)},0):=by rw[bm,if_neg rp,if_neg cO,if_neg hs,if_neg KA,if_neg (by rw[V2];simp)]
      have lS:nX bs=true:=by rw[nX,hE];simpa using cO
      refine Gc ?_
      refine fw [16] [[],[],[],[],[],[],[],[],[],[],[],[],[],[],[],[],[],[16]] [0,1,2,3,4,5,6,7,8,9,10,11,12,13,14,15,16,17] [] (fun _ hw=>ah.mem hw) (by kernel_rfl) (by kernel_rfl) ?_
      refine ak rfl (au rfl) ?_
      refine ak rfl (aX rfl rfl 0 rfl (by omega)) ?_
      refine ak rfl (bn (j:=0) rfl 0 (iU (xs:=bs) (i:=0) (d:=0) (by omega)) rfl (by decide)) ?_
      refine ak rfl (nH rfl) ?_
      refine ak rfl (au rfl) ?_
      refine ak rfl (aX rfl rfl 1 rfl (by omega)) ?_
      refine ak rfl (bn (j:=0) rfl 1 (iU (xs:=bs) (i:=1) (d:=0) (by omega)) rfl (by decide)) ?_
      refine ak rfl (nH rfl) ?_
      refine ak rfl (au rfl) ?_
      have KB:Rg 2 8 bs.length:=⟨by omega⟩
      refine ak rfl (rL rfl rfl rfl 2 8 rfl rfl KB.h.1 KB.h.2) ?_
      refine nM rfl (bX rfl (by simp;omega)) ?_
      refine ak rfl (au rfl) ?_
      refine ak rfl (au rfl) ?_
      refine ak rfl (gk rfl rfl (by omega)) ?_
      have afL:Rg 10 (10+(256*(bs.getD 8 0).toNat+(bs.getD 9 0).toNat)) bs.length:=⟨by omega⟩
      refine ak rfl (Ry.to (v':=(b.sub 1 10 (10+dm bs)).val) (rL rfl rfl rfl 10 (10+(256*(bs.getD 8 0).toNat+(bs.getD 9 0).toNat)) rfl rfl (by omega) (by omega)) (by rw[Kz])) ?_
      refine ak rfl (bV (v:= .agg (bZ (⟨((bs.getD 0 0).toNat:Int),((bs.getD 1 0).toNat:Int),UInt64.ofNat (de ((bs.drop 2).take (8 -2))),⟨b.sub 1 10 (10+dm bs),(bs.drop 10).take (10+dm bs -10)⟩⟩:dk))) rfl (by
       intro w
       have:=V0 ((bs.getD 0 0).toNat:Int) ((bs.getD 1 0).toNat:Int) (UInt64.ofNat (de ((bs.drop 2).take (8 -2)))) (b.sub 1 10 (10+dm bs)) ((bs.drop 10).take (10+dm bs -10)) w
       rw[CU]at this
       exact this)) ?_
      refine cK rfl (km rfl rfl ⟨fun _ hw=>ah.mem hw,?_⟩)
      refine ak rfl (aP rfl) ?_
      refine Gc ?_
      refine an (.inl rfl) (aZ rfl (bG rfl) (al rfl)) (fun w1 hw=> ?_)
      exact⟨(by rw[dw,if_pos lS,hE]),ah.mem hw⟩
instance afM{w0:World}{L:List aj}{b:Sv}{bs:List UInt8}[hb:cl w0 L aJ 1 b bs]:bU Tryz.prog 50 w0 L [b.val] (.tuple #[.agg (bZ (dw b bs)), .int .i64 ((bm bs).2)]) (True):=⟨fun hp w hw=>V1 w b bs (hb.h w hw)⟩
open Go.aL Go.Kb
open Go.RowKit
theorem V3(w:World)(x:Sv)(xs:List Int)(n:Int)(hx:bM bf 1 (hp w) x xs):Calls Tryz.prog 95 #[x.val, .int .i64 n] w fun e w'=>e= .returned (.bool (xs.contains n))∧Mem w [] w':=by
 have sI:Gv w x bf 1 xs:=⟨hx⟩
 have fJ:=hx.bd
 refine aW (args:=[_,_]) Tryz.func95 rfl Tryz.ntmps95 rfl ?_
 change Cw _ _ _ _ _ [(0,x.val),(1, .int .i64 n)] []
 refine Gc ?_
 refine Gs ?_
 refine Gc ?_
 refine Gs ?_
 refine Gc ?_
 refine bK (X:=Nat) (fun zz=>[(5, .int .i64 (zz:Nat)),(0,x.val),(1, .int .i64 n)]) (fun zz=>[]) (fun zz=>zz≤xs.length∧ ∀j y,j<zz→xs[j]? =Option.some y→y≠n) (fun zz=>xs.length -zz) 0 ⟨Nat.zero_le _,fun j y hj=>by first|omega|(simp only[];omega)⟩ (Sub.cons rfl (Sub.cons rfl (Sub.cons rfl (Sub.nil _)))) (fun w hw=>ah.mem hw) ?_
 rintro i ⟨bb,aH⟩
 refine Gc ?_
 iterate 4 refine Gs ?_
 refine Gc ?_
 refine aq rfl (fun h0=> ?_) (fun h0=> ?_)
 ·
  replace h0:=bz h0
  refine Gc ?_
  iterate 2 refine Gs ?_
  obtain⟨y,hy⟩:=get_some (xs:=xs) (i:=i) (by omega)
  refine ae (aX rfl rfl i rfl (by omega)) ?_
  refine ae (bn (j:=0) rfl i hy rfl (by decide)) ?_
  iterate 2 refine Gs ?_
  refine Gc ?_
  refine aq rfl (fun h1=> ?_) (fun h1=> ?_)
  ·
   replace h1:=bz h1
   have hz:xs.contains n=true:=by rw[List.contains_eq_mem,decide_eq_true_eq,←h1];exact List.mem_of_getElem? hy
   refine Gc ?_
   refine Gs ?_
   refine Gc ?_
   refine an (.inl rfl) (aK rfl (al rfl)) (fun w1 hw=> ?_)
   exact⟨congrArg (fun b=>Ending.returned (Value.bool b)) (hz.symm),ah.mem hw⟩
  ·
   replace h1:=bz h1
   refine Gc ?_
   iterate 3 refine Gs ?_
   refine Gi ?_
   exact bh (x:=(i)) (i+1) ⟨by first|omega|(simp only[];omega),fun j z hj hz=>if e:j=i then(by subst e;rw[hy]at hz;cases hz;exact h1)else aH j z (by first|omega|(simp only[];omega)) hz⟩ (by first|omega|(simp only[];omega)) (Sub.cons rfl (Sub.cons rfl (Sub.cons rfl (Sub.nil _)))) (fun w hw=>ah.mem hw)
 ·
  replace h0:=bz h0
  obtain rfl:i=xs.length:=by omega
  have hz:xs.contains n=false:=by
   rw[List.contains_eq_mem,decide_eq_false_iff_not]
   intro hm
   obtain⟨j,hj⟩:=List.getElem?_of_mem hm
   exact aH j n (List.getElem?_eq_some_iff.1 hj).1 hj rfl
  refine Gc ?_
  refine Gs ?_
  refine Gc ?_
  refine an (.inl rfl) (aK rfl (al rfl)) (fun w1 hw=> ?_)
  exact⟨congrArg (fun b=>Ending.returned (Value.bool b)) (hz.symm),ah.mem hw⟩
instance afN{w0:World}{L:List aj}{x:Sv}{xs:List Int}{n:Int}[hx:cl w0 L bf 1 x xs]:bU Tryz.prog 95 w0 L [x.val, .int .i64 n] (.bool (xs.contains n)) (True):=⟨fun hp w hw=>V3 w x xs n (hx.h w hw)⟩
theorem V4(w:World)(x:Sv)(xs:List Int)(y:Sv)(ys:List Int)(hx:bM bf 1 (hp w) x xs)(hy:bM bf 1 (hp w) y ys):Calls Tryz.prog 48 #[x.val,y.val] w fun e w'=>e= .returned (.bool (decide (xs=ys)))∧Mem w [] w':=by
 have sI:Gv w x bf 1 xs:=⟨hx⟩
 have Ec:Gv w y bf 1 ys:=⟨hy⟩
 have Ed:=hx.bd
 refine aW (args:=[_,_]) Tryz.func48 rfl Tryz.ntmps48 rfl ?_
 change Cw _ _ _ _ _ [(0,x.val),(1,y.val)] []
 refine Gc ?_
 refine Gs ?_
 refine Gc ?_
 iterate 5 refine Gs ?_
 refine Gc ?_
 refine aq rfl (fun h0=> ?_) (fun h0=> ?_)
 ·
  replace h0:=bz h0
  have hz:decide (xs=ys)=false:=decide_eq_false fun e=>h0 (by rw[e])
  refine Gc ?_
  refine Gs ?_
  refine Gc ?_
  refine an (.inl rfl) (aK rfl (al rfl)) (fun w1 hw=> ?_)
  exact⟨congrArg (fun b=>Ending.returned (Value.bool b)) (hz.symm),ah.mem hw⟩
 ·
  replace h0:=bz h0
  have la:xs.length=ys.length:=by omega
  refine Gc ?_
  refine Gs ?_
  refine Gc ?_
  refine bK (X:=Nat) (fun zz=>[(5, .int .i64 (zz:Nat)),(0,x.val),(1,y.val)]) (fun zz=>[]) (fun zz=>zz≤xs.length∧ ∀j,j<zz→xs[j]? =ys[j]?) (fun zz=>xs.length -zz) 0 ⟨Nat.zero_le _,fun j hj=>by first|omega|(simp only[];omega)⟩ (Sub.cons rfl (Sub.cons rfl (Sub.cons rfl (Sub.nil _)))) (fun w hw=>ah.mem hw) ?_
  rintro i ⟨bb,aH⟩
  refine Gc ?_
  iterate 4 refine Gs ?_
  refine Gc ?_
  refine aq rfl (fun h1=> ?_) (fun h1=> ?_)
  ·
   replace h1:=bz h1
   obtain⟨p,g9⟩:=get_some (xs:=xs) (i:=i) (by omega)
   obtain⟨q,mM⟩:=get_some (xs:=ys) (i:=i) (by omega)
   refine Gc ?_
   refine eF (by kernel_rfl) (by kernel_rfl) ?_
   iterate 2 refine Gq ?_
   refine aT (aX rfl rfl i rfl (by omega)) ?_
   refine aT (bn (j:=0) rfl i g9 rfl (by decide)) ?_
   iterate 2 refine Gq ?_
   refine aT (aX rfl rfl i rfl (by omega)) ?_
   refine aT (bn (j:=0) rfl i mM rfl (by decide)) ?_
   refine Gq ?_
   refine Gc ?_
   refine aq rfl (fun h2=> ?_) (fun h2=> ?_)
   ·
    replace h2:=bz h2
    have hz:decide (xs=ys)=false:=decide_eq_false fun e=>h2 (by rw[e]at g9;rw[g9]at mM;cases mM;rfl)
    refine Gc ?_
    refine Gs ?_
    refine Gc ?_
    refine an (.inl rfl) (aK rfl (al rfl)) (fun w1 hw=> ?_)
    exact⟨congrArg (fun b=>Ending.returned (Value.bool b)) (hz.symm),ah.mem hw⟩
   ·
    replace h2:=bz h2
    refine Gc ?_
    iterate 3 refine Gs ?_
    refine Gi ?_
    exact bh (x:=(i)) (i+1) ⟨by first|omega|(simp only[];omega),fun j hj=>if e:j=i then(by subst e;rw[g9,mM,h2])else aH j (by first|omega|(simp only[];omega))⟩ (by first|omega|(simp only[];omega)) (Sub.cons rfl (Sub.cons rfl (Sub.cons rfl (Sub.nil _)))) (fun w hw=>ah.mem hw)
  ·
   replace h1:=bz h1
   obtain rfl:i=xs.length:=by omega
   have hz:decide (xs=ys)=true:=decide_eq_true (Ah la aH)
   refine Gc ?_
   refine Gs ?_
   refine Gc ?_
   refine an (.inl rfl) (aK rfl (al rfl)) (fun w1 hw=> ?_)
   exact⟨congrArg (fun b=>Ending.returned (Value.bool b)) (hz.symm),ah.mem hw⟩
instance afO{w0:World}{L:List aj}{x:Sv}{xs:List Int}{y:Sv}{ys:List Int}[hx:cl w0 L bf 1 x xs][hy:cl w0 L bf 1 y ys]:bU Tryz.prog 48 w0 L [x.val,y.val] (.bool (decide (xs=ys))) (True):=⟨fun hp w hw=>V4 w x xs y ys (hx.h w hw) (hy.h w hw)⟩
theorem V5(w:World)(n:Int):Calls Tryz.prog 103 #[.int .i64 n] w fun e w'=>e= .returned (.int .i64 (fY n))∧Mem w [] w':=by
 have RM:0≤du n∧du n≤240:=by
  by_cases h:jq n=true
  ·
   have:=oU.1 h;rw[du,if_pos h];omega
  ·
   rw[du,if_neg h];omega
 refine aW (args:=[_]) Tryz.func103 rfl Tryz.ntmps103 rfl ?_
 change Cw _ _ _ _ _ [(0, .int .i64 n)] []
 refine Gc ?_
 refine Gs ?_
 refine Gc ?_
 iterate 2 refine Gs ?_
 refine ae (gV rfl rfl (by omega) (by omega)) ?_
 refine Gs ?_
 refine Gc ?_
 iterate 2 refine Gs ?_
 refine Gc ?_
 refine aq rfl (fun h0=> ?_) (fun h0=> ?_)
 ·
  replace h0:=bz h0
  refine Gc ?_
  refine Gs ?_
  refine Gc ?_
  refine an (.inl rfl) (aK rfl (al rfl)) (fun w1 hw=> ?_)
  exact⟨congrArg (fun b=>Ending.returned (Value.int .i64 b)) ((by rw[fY];omega)),ah.mem hw⟩
 ·
  replace h0:=bz h0
  refine Gc ?_
  iterate 2 refine Gs ?_
  refine Gc ?_
  refine an (.inl rfl) (aK rfl (al rfl)) (fun w1 hw=> ?_)
  exact⟨congrArg (fun b=>Ending.returned (Value.int .i64 b)) ((by rw[fY];omega)),ah.mem hw⟩
instance afP{w0:World}{L:List aj}{n:Int}:bU Tryz.prog 103 w0 L [.int .i64 n] (.int .i64 (fY n)) (True):=⟨fun hp w hw=>V5 w n⟩
open Go.aL Go.Kb
open Go.RowKit
theorem V6(w:World)(c:Cp)(hc:Deep.bk (hp w) c):Calls Tryz.prog 93 #[.agg (aB c)] w fun e w'=>e= .returned (.bool (bg (cv c)))∧Mem w [] w':=by
 have gy:bT w c:=⟨hc⟩
 have cO:=dH c.blocks.xs
 have ct:bg (cv c)=true↔nO c.blocks.xs.length c.ag c.size=true∧0≤c.ops∧c.ops≤dJ∧c.bc.xs.length≤64∧ ∀b∈fm c.blocks.xs,k7 c.ag c.size b=true:=by rw[dE];simp only[cv,cO]
 have o8:dJ=1099511627776:=rfl
 refine aW (args:=[_]) Tryz.func93 rfl Tryz.ntmps93 rfl ?_
 change Cw _ _ _ _ _ [(0, .agg (aB c))] []
 refine Gc ?_
 refine bL rfl fun b1=> ?_
 refine Gs ?_
 refine Gc ?_
 iterate 4 refine Gs ?_
 iterate 3 refine Gg ?_
 iterate 2 refine Gs ?_
 iterate 3 refine Gg ?_
 iterate 2 refine Gs ?_
 iterate 3 refine Gg ?_
 iterate 2 refine Gs ?_
 iterate 4 refine Gg ?_
 iterate 2 refine Gs ?_
 iterate 4 refine Gg ?_
 iterate 2 refine Gs ?_
 iterate 3 refine Gg ?_
 iterate 2 refine Gs ?_
 iterate 3 refine Gg ?_
 iterate 2 refine Gs ?_
 iterate 4 refine Gg ?_
 refine Gs ?_
 refine Gc ?_
 refine aq rfl (fun h0=> ?_) (fun h0=> ?_)
 ·
  replace h0:=bz h0
  have hz:bg (cv c)=false:=by
   cases hk:bg (cv c)with
   |false=>rfl
   |true=>
    have g:=ct.1 hk
    have g2:=ik.1 g.1
    omega
  refine Gc ?_
  refine Gs ?_
  refine Gc ?_
  refine an (.inl rfl) (aK rfl (al rfl)) (fun w1 hw=> ?_)
  exact⟨congrArg (fun b=>Ending.returned (Value.bool b)) (hz.symm),ah.mem hw⟩
 ·
  replace h0:=bz h0
  have g0:nO c.blocks.xs.length c.ag c.size=true∧0≤c.ops∧c.ops≤dJ∧c.bc.xs.length≤64:=⟨ik.2 ⟨by omega,by omega,by omega,by omega,by omega,by omega⟩,by omega,by omega,by omega⟩
  have gs:=ik.1 g0.1
  refine Gc ?_
  refine Gs ?_
  refine Gc ?_
  refine bK (X:=Nat) (fun zz=>[(3, .int .i64 (zz:Nat)),(1, .pointer (some ⟨b1,0,none⟩))]) (fun zz=>[ar b1 (aB c) 25]) (fun zz=>zz≤c.blocks.xs.length∧ ∀j b,j<zz→(fm c.blocks.xs)[j]? =Option.some b→k7 c.ag c.size b=true) (fun zz=>c.blocks.xs.length -zz) 0 ⟨Nat.zero_le _,fun j b hj=>by first|omega|(simp only[];omega)⟩ (Sub.cons rfl (Sub.cons rfl (Sub.nil _))) (fun w hw=>ah.mem hw) ?_
  rintro i ⟨bb,aH⟩
  refine Gc ?_
  iterate 5 refine Gs ?_
  refine Gc ?_
  refine aq rfl (fun h1=> ?_) (fun h1=> ?_)
  ·
   replace h1:=bz h1
   obtain⟨x,hx⟩:=get_some (xs:=c.blocks.xs) (i:=i) (by omega)
   have uw:Mb x c.blocks:=⟨List.mem_of_getElem? hx⟩
   refine Gc ?_
   iterate 3 refine Gs ?_
   refine ae (aX rfl rfl i rfl (by omega)) ?_
   refine ae (fH rfl i hx rfl) ?_
   have afQ:Mb x c.blocks:=⟨List.mem_of_getElem? hx⟩
   refine bx fun b4=> ?_
   refine Gs ?_
   refine Gc ?_
   iterate 7 refine Gs ?_
   iterate 3 refine Gg ?_
   iterate 2 refine Gs ?_
   iterate 5 refine Gg ?_
   iterate 2 refine Gs ?_
   iterate 3 refine Gg ?_
   iterate 2 refine Gs ?_
   iterate 3 refine Gg ?_
   refine Gs ?_
   refine Gc ?_
   refine aq rfl (fun h2=> ?_) (fun h2=> ?_)
   ·
    replace h2:=bz h2
    have hz:bg (cv c)=false:=by
     cases hk:bg (cv c)with
     |false=>rfl
     |true=>
      have g:=eM.1 ((ct.1 hk).2.2.2.2 (bv x) (List.mem_of_getElem? (fK hx)))
      simp only[bv,fk]at g
      omega
    refine Gc ?_
    refine Gs ?_
    refine Gc ?_
    refine an (.inl rfl) (aK rfl (al rfl)) (fun w1 hw=> ?_)
    exact⟨congrArg (fun b=>Ending.returned (Value.bool b)) (hz.symm),ah.mem hw⟩
   ·
    replace h2:=bz h2
    refine Gc ?_
    refine Gs ?_
    refine Gc ?_
    refine bK (X:=Nat) (fun zz=>[(5, .int .i64 (zz:Nat)),(1, .pointer (some ⟨b1,0,none⟩)),(3, .int .i64 (i:Nat)),(4, .pointer (some ⟨b4,0,none⟩))]) (fun zz=>[ar b4 (bN x) 48,ar b1 (aB c) 25]) (fun zz=>zz≤x.ag.xs.length∧ ∀k y,k<zz→(bv x).ag[k]? =Option.some y→(y.length:Int)=c.size) (fun zz=>x.ag.xs.length -zz) 0 ⟨Nat.zero_le _,fun k y hk=>by first|omega|(simp only[];omega)⟩ (Sub.cons rfl (Sub.cons rfl (Sub.cons rfl (Sub.cons rfl (Sub.nil _))))) (fun w hw=>ah.mem hw) ?_
    rintro j ⟨jA,db⟩
    refine Gc ?_
    iterate 5 refine Gs ?_
    refine Gc ?_
    refine aq rfl (fun h3=> ?_) (fun h3=> ?_)
    ·
     replace h3:=bz h3
     obtain⟨y,hy⟩:=get_some (xs:=x.ag.xs) (i:=j) (by omega)
     have sM:Mb y x.ag:=⟨List.mem_of_getElem? hy⟩
     refine Gc ?_
     refine eF (by kernel_rfl) (by kernel_rfl) ?_
     iterate 3 refine Gq ?_
     refine aT (aX rfl rfl j rfl (by omega)) ?_
     refine aT (bn (j:=0) rfl j hy rfl (by decide)) ?_
     have afR:Mb y _:=⟨List.mem_of_getElem? hy⟩
     iterate 4 refine Gq ?_
     refine Gc ?_
     refine aq rfl (fun h4=> ?_) (fun h4=> ?_)
     ·
      replace h4:=bz h4
      have hz:bg (cv c)=false:=by
       cases hk:bg (cv c)with
       |false=>rfl
       |true=>
        have g:=(eM.1 ((ct.1 hk).2.2.2.2 (bv x) (List.mem_of_getElem? (fK hx)))).2.2.2.2.2 y.xs (List.mem_of_getElem? (ib hy))
        omega
      refine Gc ?_
      refine Gs ?_
      refine Gc ?_
      refine an (.inl rfl) (aK rfl (al rfl)) (fun w1 hw=> ?_)
      exact⟨congrArg (fun b=>Ending.returned (Value.bool b)) (hz.symm),ah.mem hw⟩
     ·
      replace h4:=bz h4
      refine Gc ?_
      iterate 3 refine Gs ?_
      refine Gi ?_
      exact bh (x:=(j)) (j+1) ⟨by first|omega|(simp only[];omega),fun k z hk hz=>if e:k=j then(by subst e;rw[show(bv x).ag=aE x.ag.xs from rfl,ib hy]at hz;cases hz;omega)else db k z (by first|omega|(simp only[];omega)) hz⟩ (by first|omega|(simp only[];omega)) (Sub.cons rfl (Sub.cons rfl (Sub.cons rfl (Sub.cons rfl (Sub.nil _))))) (fun w hw=>ah.mem hw)
    ·
     replace h3:=bz h3
     have p8:k7 c.ag c.size (bv x)=true:=eM.2 ⟨by simp only[bv,fk];omega,by simp only[bv];omega,by simp only[bv];omega,by simp only[bv];omega,by simp only[bv];omega,fun y hy=>by
      obtain⟨k,hk⟩:=List.getElem?_of_mem hy
      exact db k y (by have h:=(List.getElem?_eq_some_iff.1 hk).1;simp only[bv,fk]at h;omega) hk⟩
     refine Gc ?_
     iterate 3 refine Gs ?_
     refine Gi ?_
     exact bh (x:=(i)) (i+1) ⟨by first|omega|(simp only[];omega),fun j b hj hb=>if e:j=i then(by subst e;rw[fK hx]at hb;cases hb;exact p8)else aH j b (by first|omega|(simp only[];omega)) hb⟩ (by first|omega|(simp only[];omega)) (Sub.cons rfl (Sub.cons rfl (Sub.nil _))) (fun w hw=>ah.mem hw)
  ·
   replace h1:=bz h1
   obtain rfl:i=c.blocks.xs.length:=by omega
   have hz:bg (cv c)=true:=ct.2 ⟨g0.1,g0.2.1,g0.2.2.1,g0.2.2.2,fun b hb=>by
    obtain⟨j,hj⟩:=List.getElem?_of_mem hb
    exact aH j b (by have:=(List.getElem?_eq_some_iff.1 hj).1;omega) hj⟩
   refine Gc ?_
   refine Gs ?_
   refine Gc ?_
   refine an (.inl rfl) (aK rfl (al rfl)) (fun w1 hw=> ?_)
   exact⟨congrArg (fun b=>Ending.returned (Value.bool b)) (hz.symm),ah.mem hw⟩
instance afS{w0:World}{L:List aj}{c:Cp}[hc:aS w0 L c]:bU Tryz.prog 93 w0 L [.agg (aB c)] (.bool (bg (cv c))) (True):=⟨fun hp w hw=>V6 w c (hc.h w hw)⟩
theorem V7(w:World)(a:Bk)(d:Bk)(ha:Deep.bk (hp w) a)(hd:Deep.bk (hp w) d):Calls Tryz.prog 38 #[.agg (bN a), .agg (bN d)] w fun e w'=>e= .returned (.bool (decide (bv a=bv d)))∧Mem w [] w':=by
 have uq:bT w a:=⟨ha⟩
 have D7:bT w d:=⟨hd⟩
 have fJ:=ha.1.bd
 have V8:=fk a.ag.xs
 have vl:=fk d.ag.xs
 refine aW (args:=[_,_]) Tryz.func38 rfl Tryz.ntmps38 rfl ?_
 change Cw _ _ _ _ _ [(0, .agg (bN a)),(1, .agg (bN d))] []
 refine Gc ?_
 refine bL rfl fun b2=> ?_
 refine bL rfl fun b3=> ?_
 refine Gs ?_
 refine Gc ?_
 iterate 6 refine Gs ?_
 iterate 5 refine Gg ?_
 iterate 2 refine Gs ?_
 iterate 4 refine Gg ?_
 refine bD rfl rfl rfl (fun hg=>(Ry.yl (BB (av hg rfl) (av hg rfl) Tryz.underlying4))) ?_
 iterate 2 refine Gs ?_
 iterate 7 refine Gg ?_
 refine Gs ?_
 refine Gc ?_
 refine aq rfl (fun h0=> ?_) (fun h0=> ?_)
 ·
  replace h0:=bz h0
  have hz:decide (bv a=bv d)=false:=decide_eq_false fun e=>by
   obtain⟨g1,g2,g3,g4⟩:=Dz.1 e
   have g5:=congrArg List.length g4
   simp only[bv,fk]at g1 g2 g3 g5
   rcases h0 with((h|h)|h)|h
   ·
    exact h g1
   ·
    exact h g2
   ·
    rw[g3]at h;simp at h
   ·
    omega
  refine Gc ?_
  refine Gs ?_
  refine Gc ?_
  refine an (.inl rfl) (aK rfl (al rfl)) (fun w1 hw=> ?_)
  exact⟨congrArg (fun b=>Ending.returned (Value.bool b)) (hz.symm),ah.mem hw⟩
 ·
  replace h0:=bz h0
  have hc:a.used=d.used∧a.bE=d.bE∧a.bad=d.bad∧a.ag.xs.length=d.ag.xs.length:=⟨h0.1.1.1,h0.1.1.2,by simpa using h0.1.2,by omega⟩
  refine Gc ?_
  refine Gs ?_
  refine Gc ?_
  refine bK (X:=Nat) (fun zz=>[(5, .int .i64 (zz:Nat)),(2, .pointer (some ⟨b2,0,none⟩)),(3, .pointer (some ⟨b3,0,none⟩))]) (fun zz=>[ar b3 (bN d) 48,ar b2 (bN a) 48]) (fun zz=>zz≤a.ag.xs.length∧ ∀j,j<zz→(bv a).ag[j]? =(bv d).ag[j]?) (fun zz=>a.ag.xs.length -zz) 0 ⟨Nat.zero_le _,fun j hj=>by first|omega|(simp only[];omega)⟩ (Sub.cons rfl (Sub.cons rfl (Sub.cons rfl (Sub.nil _)))) (fun w hw=>ah.mem hw) ?_
  rintro i ⟨bb,aH⟩
  refine Gc ?_
  iterate 5 refine Gs ?_
  refine Gc ?_
  refine aq rfl (fun h1=> ?_) (fun h1=> ?_)
  ·
   replace h1:=bz h1
   obtain⟨x,hx⟩:=get_some (xs:=a.ag.xs) (i:=i) (by omega)
   obtain⟨y,hy⟩:=get_some (xs:=d.ag.xs) (i:=i) (by omega)
   have uw:Mb x a.ag:=⟨List.mem_of_getElem? hx⟩
   have sM:Mb y d.ag:=⟨List.mem_of_getElem? hy⟩
   refine Gc ?_
   refine eF (by kernel_rfl) (by kernel_rfl) ?_
   iterate 3 refine Gq ?_
   refine aT (aX rfl rfl i rfl (by omega)) ?_
   refine aT (bn (j:=0) rfl i hx rfl (by decide)) ?_
   have Vc:Mb x _:=⟨List.mem_of_getElem? hx⟩
   refine aT (u2 Tryz.underlying38 Tryz.underlying5 Tryz.underlying9 rfl) ?_
   iterate 3 refine Gq ?_
   refine aT (aX rfl rfl i rfl (by omega)) ?_
   refine aT (bn (j:=0) rfl i hy rfl (by decide)) ?_
   have afT:Mb y _:=⟨List.mem_of_getElem? hy⟩
   refine aT (u2 Tryz.underlying38 Tryz.underlying5 Tryz.underlying9 rfl) ?_
   refine aT (F0 rfl rfl) ?_
   refine Gc ?_
   refine aq rfl (fun h2=> ?_) (fun h2=> ?_)
   ·
    replace h2:=bz h2
    have hz:decide (bv a=bv d)=false:=decide_eq_false fun e=>h2 (by
     have g:=congrArg (fun l:List (List UInt8)=>l[i]?) (Dz.1 e).2.2.2
     simp only[bv,ib hx,ib hy]at g
     exact Option.some.inj g)
    refine Gc ?_
    refine Gs ?_
    refine Gc ?_
    refine an (.inl rfl) (aK rfl (al rfl)) (fun w1 hw=> ?_)
    exact⟨congrArg (fun b=>Ending.returned (Value.bool b)) (hz.symm),ah.mem hw⟩
   ·
    replace h2:=bz h2
    refine Gc ?_
    iterate 3 refine Gs ?_
    refine Gi ?_
    exact bh (x:=(i)) (i+1) ⟨by first|omega|(simp only[];omega),fun j hj=>if e:j=i then(by subst e;rw[show(bv a).ag=aE a.ag.xs from rfl,show(bv d).ag=aE d.ag.xs from rfl,ib hx,ib hy,h2])else aH j (by first|omega|(simp only[];omega))⟩ (by first|omega|(simp only[];omega)) (Sub.cons rfl (Sub.cons rfl (Sub.cons rfl (Sub.nil _)))) (fun w hw=>ah.mem hw)
  ·
   replace h1:=bz h1
   obtain rfl:i=a.ag.xs.length:=by omega
   have hz:decide (bv a=bv d)=true:=decide_eq_true (Dz.2 ⟨hc.1,hc.2.1,hc.2.2.1,Ah (by simp only[bv,fk];exact hc.2.2.2) fun j hj=>aH j (by simpa only[bv,fk]using hj)⟩)
   refine Gc ?_
   refine Gs ?_
   refine Gc ?_
   refine an (.inl rfl) (aK rfl (al rfl)) (fun w1 hw=> ?_)
   exact⟨congrArg (fun b=>Ending.returned (Value.bool b)) (hz.symm),ah.mem hw⟩
instance afU{w0:World}{L:List aj}{a:Bk}{d:Bk}[ha:aS w0 L a][hd:aS w0 L d]:bU Tryz.prog 38 w0 L [.agg (bN a), .agg (bN d)] (.bool (decide (bv a=bv d))) (True):=⟨fun hp w hw=>V7 w a d (ha.h w hw) (hd.h w hw)⟩
theorem KC(d:Nat):nZ Tryz.prog (d+1) 4 false [1]:=⟨⟨_,Tryz.underlying4,rfl⟩,by kernel_rfl,fun _=>rfl,Qk Tryz.underlying4⟩
theorem V9:Tryz.prog.stoodInHeld 94=false:=by kernel_rfl
theorem Wa(d:Nat):nZ Tryz.prog (d+1+1+1+1+1) 94 true ([0]++([1]++([1]++([0]++[])))):=⟨⟨_,Tryz.underlying94,rfl⟩,by kernel_rfl,(fun h=>by cases h),
 DR Tryz.underlying94 V9 ⟨by decide,rfl,_,_,_,rfl,DS _,by decide,rfl,_,_,_,rfl,KC _,by decide,rfl,_,_,_,rfl,KC _,by decide,rfl,_,_,_,rfl,Jd _,rfl⟩⟩
theorem Wb:Tryz.prog.eqGuardType Tryz.prog.depth 94=false:=by kernel_rfl
theorem Wc{a b:Ft}:cX a=cX b↔a=b:=by
 constructor
 ·
  intro h
  obtain⟨a1,a2,a3,a4⟩:=a
  obtain⟨b1,b2,b3,b4⟩:=b
  simp only[cX,Array.mk.injEq,List.cons.injEq,Value.int.injEq,Value.bool.injEq,true_and,and_true]at h
  obtain⟨h1,h2,h3,h4⟩:=h
  have vL:a4=b4:=UInt8.toNat_inj.1 (by omega)
  subst h1 h2 h3 vL;rfl
 ·
  rintro rfl;rfl
instance (a b:Ft):th Tryz.prog 94 (.agg (cX a)) (.agg (cX b)) (decide (a=b)):=
 (Wa 9995).eq.val rfl Wb rfl rfl (fun i k hk=>by
  have hi:i<4:=(List.getElem?_eq_some_iff.1 hk).1
  match i,hi with
  |0,_=>obtain rfl:0=k:=Option.some.inj hk;exact⟨_,_,rfl,rfl,rfl⟩
  |1,_=>obtain rfl:1=k:=Option.some.inj hk;exact⟨_,_,rfl,rfl,trivial⟩
  |2,_=>obtain rfl:1=k:=Option.some.inj hk;exact⟨_,_,rfl,rfl,trivial⟩
  |3,_=>obtain rfl:0=k:=Option.some.inj hk;exact⟨_,_,rfl,rfl,rfl⟩) (by rw[decide_eq_true_iff];exact Wc)
theorem Wd(w:World)(a:Cp)(d:Cp)(ha:Deep.bk (hp w) a)(hd:Deep.bk (hp w) d):Calls Tryz.prog 47 #[.agg (aB a), .agg (aB d)] w fun e w'=>e= .returned (.bool (decide (cv a=cv d)))∧Mem w [] w':=by
 have uq:bT w a:=⟨ha⟩
 have D7:bT w d:=⟨hd⟩
 have fJ:=ha.1.1.bd
 have KD:=ha.2.1.bd
 have V8:=dH a.blocks.xs
 have vl:=dH d.blocks.xs
 refine aW (args:=[_,_]) Tryz.func47 rfl Tryz.ntmps47 rfl ?_
 change Cw _ _ _ _ _ [(0, .agg (aB a)),(1, .agg (aB d))] []
 refine Gc ?_
 refine bL rfl fun b2=> ?_
 refine bL rfl fun b3=> ?_
 refine Gs ?_
 refine Gc ?_
 iterate 6 refine Gs ?_
 iterate 5 refine Gg ?_
 iterate 2 refine Gs ?_
 iterate 5 refine Gg ?_
 iterate 2 refine Gs ?_
 iterate 4 refine Gg ?_
 refine bD rfl rfl rfl (fun hg=>(Ry.yl (BB (av hg rfl) (av hg rfl) Tryz.underlying4))) ?_
 iterate 2 refine Gs ?_
 iterate 7 refine Gg ?_
 iterate 2 refine Gs ?_
 iterate 7 refine Gg ?_
 refine Gs ?_
 refine Gc ?_
 refine aq rfl (fun h0=> ?_) (fun h0=> ?_)
 ·
  replace h0:=bz h0
  have hz:decide (cv a=cv d)=false:=decide_eq_false fun e=>by
   obtain⟨g1,g2,g3,g4,g5,g6⟩:=Ag.1 e
   have g7:=congrArg List.length g5
   have g8:=congrArg List.length g6
   simp only[cv,dH]at g1 g2 g3 g4 g7 g8
   rcases h0 with((((h|h)|h)|h)|h)|h
   ·
    exact h g1
   ·
    exact h g2
   ·
    exact h g3
   ·
    rw[g4]at h;simp at h
   ·
    omega
   ·
    omega
  refine Gc ?_
  refine Gs ?_
  refine Gc ?_
  refine an (.inl rfl) (aK rfl (al rfl)) (fun w1 hw=> ?_)
  exact⟨congrArg (fun b=>Ending.returned (Value.bool b)) (hz.symm),ah.mem hw⟩
 ·
  replace h0:=bz h0
  have hc:a.ag=d.ag∧a.size=d.size∧a.ops=d.ops∧a.off=d.off∧a.blocks.xs.length=d.blocks.xs.length∧a.bc.xs.length=d.bc.xs.length:=⟨h0.1.1.1.1.1,h0.1.1.1.1.2,h0.1.1.1.2,by simpa using h0.1.1.2,by omega,by omega⟩
  refine Gc ?_
  refine Gs ?_
  refine Gc ?_
  refine bK (X:=Nat) (fun zz=>[(5, .int .i64 (zz:Nat)),(2, .pointer (some ⟨b2,0,none⟩)),(3, .pointer (some ⟨b3,0,none⟩))]) (fun zz=>[ar b3 (aB d) 25,ar b2 (aB a) 25]) (fun zz=>zz≤a.bc.xs.length∧ ∀j,j<zz→a.bc.xs[j]? =d.bc.xs[j]?) (fun zz=>a.bc.xs.length -zz) 0 ⟨Nat.zero_le _,fun j hj=>by first|omega|(simp only[];omega)⟩ (Sub.cons rfl (Sub.cons rfl (Sub.cons rfl (Sub.nil _)))) (fun w hw=>ah.mem hw) ?_
  rintro i ⟨bb,aH⟩
  refine Gc ?_
  iterate 5 refine Gs ?_
  refine Gc ?_
  refine aq rfl (fun h1=> ?_) (fun h1=> ?_)
  ·
   replace h1:=bz h1
   obtain⟨x,hx⟩:=get_some (xs:=a.bc.xs) (i:=i) (by omega)
   obtain⟨y,hy⟩:=get_some (xs:=d.bc.xs) (i:=i) (by omega)
   refine Gc ?_
   refine eF (by kernel_rfl) (by kernel_rfl) ?_
   iterate 3 refine Gq ?_
   refine aT (aX rfl rfl i rfl (by omega)) ?_
   refine aT (fH rfl i hx rfl) ?_
   iterate 3 refine Gq ?_
   refine aT (aX rfl rfl i rfl (by omega)) ?_
   refine aT (fH rfl i hy rfl) ?_
   refine aT (BA rfl rfl) ?_
   refine Gc ?_
   refine aq rfl (fun h2=> ?_) (fun h2=> ?_)
   ·
    replace h2:=bz h2
    have hz:decide (cv a=cv d)=false:=decide_eq_false fun e=>h2 (by
     have g:=congrArg (fun l:List Ft=>l[i]?) (Ag.1 e).2.2.2.2.2
     simp only[cv,hx,hy]at g
     exact Option.some.inj g)
    refine Gc ?_
    refine Gs ?_
    refine Gc ?_
    refine an (.inl rfl) (aK rfl (al rfl)) (fun w1 hw=> ?_)
    exact⟨congrArg (fun b=>Ending.returned (Value.bool b)) (hz.symm),ah.mem hw⟩
   ·
    replace h2:=bz h2
    refine Gc ?_
    iterate 3 refine Gs ?_
    refine Gi ?_
    exact bh (x:=(i)) (i+1) ⟨by first|omega|(simp only[];omega),fun j hj=>if e:j=i then(by subst e;rw[hx,hy,h2])else aH j (by first|omega|(simp only[];omega))⟩ (by first|omega|(simp only[];omega)) (Sub.cons rfl (Sub.cons rfl (Sub.cons rfl (Sub.nil _)))) (fun w hw=>ah.mem hw)
  ·
   replace h1:=bz h1
   obtain rfl:i=a.bc.xs.length:=by omega
   have We:a.bc.xs=d.bc.xs:=Ah hc.2.2.2.2.2 aH
   refine Gc ?_
   refine Gs ?_
   refine Gc ?_
   refine bK (X:=Nat) (fun zz=>[(6, .int .i64 (zz:Nat)),(2, .pointer (some ⟨b2,0,none⟩)),(3, .pointer (some ⟨b3,0,none⟩))]) (fun zz=>[ar b3 (aB d) 25,ar b2 (aB a) 25]) (fun zz=>zz≤a.blocks.xs.length∧ ∀k,k<zz→(fm a.blocks.xs)[k]? =(fm d.blocks.xs)[k]?) (fun zz=>a.blocks.xs.length -zz) 0 ⟨Nat.zero_le _,fun j hj=>by first|omega|(simp only[];omega)⟩ (Sub.cons rfl (Sub.cons rfl (Sub.cons rfl (Sub.nil _)))) (fun w hw=>ah.mem hw) ?_
   rintro j ⟨jA,db⟩
   refine Gc ?_
   iterate 5 refine Gs ?_
   refine Gc ?_
   refine aq rfl (fun h3=> ?_) (fun h3=> ?_)
   ·
    replace h3:=bz h3
    obtain⟨x,hx⟩:=get_some (xs:=a.blocks.xs) (i:=j) (by omega)
    obtain⟨y,hy⟩:=get_some (xs:=d.blocks.xs) (i:=j) (by omega)
    have uw:Mb x a.blocks:=⟨List.mem_of_getElem? hx⟩
    have sM:Mb y d.blocks:=⟨List.mem_of_getElem? hy⟩
    refine Gc ?_
    refine eF (by kernel_rfl) (by kernel_rfl) ?_
    iterate 3 refine Gq ?_
    refine aT (aX rfl rfl j rfl (by omega)) ?_
    refine aT (fH rfl j hx rfl) ?_
    have afV:Mb x a.blocks:=⟨List.mem_of_getElem? hx⟩
    iterate 3 refine Gq ?_
    refine aT (aX rfl rfl j rfl (by omega)) ?_
    refine aT (fH rfl j hy rfl) ?_
    have afW:Mb y d.blocks:=⟨List.mem_of_getElem? hy⟩
    refine oz (bX rfl trivial) ?_
    refine Gq ?_
    refine Gc ?_
    refine aq rfl (fun h4=> ?_) (fun h4=> ?_)
    ·
     replace h4:=bz h4
     have hz:decide (cv a=cv d)=false:=decide_eq_false fun e=>absurd (show bv x=bv y by
      have g:=congrArg (fun l:List BV=>l[j]?) (Ag.1 e).2.2.2.2.1
      simp only[cv,fK hx,fK hy]at g
      exact Option.some.inj g) h4
     refine Gc ?_
     refine Gs ?_
     refine Gc ?_
     refine an (.inl rfl) (aK rfl (al rfl)) (fun w1 hw=> ?_)
     exact⟨congrArg (fun b=>Ending.returned (Value.bool b)) (hz.symm),ah.mem hw⟩
    ·
     replace h4:=bz h4
     refine Gc ?_
     iterate 3 refine Gs ?_
     refine Gi ?_
     exact bh (x:=(j)) (j+1) ⟨by first|omega|(simp only[];omega),fun k hk=>if e:k=j then(by subst e;rw[fK hx,fK hy,h4])else db k (by first|omega|(simp only[];omega))⟩ (by first|omega|(simp only[];omega)) (Sub.cons rfl (Sub.cons rfl (Sub.cons rfl (Sub.nil _)))) (fun w hw=>ah.mem hw)
   ·
    replace h3:=bz h3
    obtain rfl:j=a.blocks.xs.length:=by omega
    have hz:decide (cv a=cv d)=true:=decide_eq_true (Ag.2 ⟨hc.1,hc.2.1,hc.2.2.1,hc.2.2.2.1,Ah (by simp only[cv,dH];exact hc.2.2.2.2.1) fun k hk=>db k (by simpa only[cv,dH]using hk),We⟩)
    refine Gc ?_
    refine Gs ?_
    refine Gc ?_
    refine an (.inl rfl) (aK rfl (al rfl)) (fun w1 hw=> ?_)
    exact⟨congrArg (fun b=>Ending.returned (Value.bool b)) (hz.symm),ah.mem hw⟩
instance afX{w0:World}{L:List aj}{a:Cp}{d:Cp}[ha:aS w0 L a][hd:aS w0 L d]:bU Tryz.prog 47 w0 L [.agg (aB a), .agg (aB d)] (.bool (decide (cv a=cv d))) (True):=⟨fun hp w hw=>Wd w a d (ha.h w hw) (hd.h w hw)⟩
theorem Wf(w:World)(c:Cp)(hc:Deep.bk (hp w) c):Calls Tryz.prog 11 #[.agg (aB c)] w fun e w'=>e= .returned (.bool (nW (cv c)))∧Mem w [] w':=by
 have gy:bT w c:=⟨hc⟩
 have cO:=dH c.blocks.xs
 have mi: ∀{i:Nat} {x:Bk},c.blocks.xs[i]? =Option.some x→ ¬(x.ag.xs.length≤20∧ ∀p∈aE x.ag.xs,p.length≤300)→nW (cv c)=false:=fun{i x} hx hn=>by
  cases hk:nW (cv c)with
  |false=>rfl
  |true=>
   have g:=(Dy.1 hk).2.2 (bv x) (List.mem_of_getElem? (fK hx))
   simp only[bv,fk]at g
   exact absurd g hn
 refine aW (args:=[_]) Tryz.func11 rfl Tryz.ntmps11 rfl ?_
 change Cw _ _ _ _ _ [(0, .agg (aB c))] []
 refine Gc ?_
 refine bL rfl fun b1=> ?_
 refine Gs ?_
 refine Gc ?_
 iterate 5 refine Gs ?_
 iterate 4 refine Gg ?_
 refine Gs ?_
 refine Gc ?_
 refine aq rfl (fun h0=> ?_) (fun h0=> ?_)
 ·
  replace h0:=bz h0
  have hz:nW (cv c)=false:=by
   cases hk:nW (cv c)with
   |false=>rfl
   |true=>
    have g:=Dy.1 hk
    simp only[cv,dH]at g
    omega
  refine Gc ?_
  refine Gs ?_
  refine Gc ?_
  refine an (.inl rfl) (aK rfl (al rfl)) (fun w1 hw=> ?_)
  exact⟨congrArg (fun b=>Ending.returned (Value.bool b)) (hz.symm),ah.mem hw⟩
 ·
  replace h0:=bz h0
  refine Gc ?_
  refine Gs ?_
  refine Gc ?_
  refine bK (X:=Nat) (fun zz=>[(3, .int .i64 (zz:Nat)),(1, .pointer (some ⟨b1,0,none⟩))]) (fun zz=>[ar b1 (aB c) 25]) (fun zz=>zz≤c.blocks.xs.length∧ ∀j b,j<zz→(fm c.blocks.xs)[j]? =Option.some b→b.ag.length≤20∧ ∀p∈b.ag,p.length≤300) (fun zz=>c.blocks.xs.length -zz) 0 ⟨Nat.zero_le _,fun j b hj=>by first|omega|(simp only[];omega)⟩ (Sub.cons rfl (Sub.cons rfl (Sub.nil _))) (fun w hw=>ah.mem hw) ?_
  rintro i ⟨bb,aH⟩
  refine Gc ?_
  iterate 5 refine Gs ?_
  refine Gc ?_
  refine aq rfl (fun h1=> ?_) (fun h1=> ?_)
  ·
   replace h1:=bz h1
   obtain⟨x,hx⟩:=get_some (xs:=c.blocks.xs) (i:=i) (by omega)
   have uw:Mb x c.blocks:=⟨List.mem_of_getElem? hx⟩
   refine Gc ?_
   iterate 3 refine Gs ?_
   refine ae (aX rfl rfl i rfl (by omega)) ?_
   refine ae (aA rfl rfl) ?_
   refine ae (bn (j:=0) rfl i hx rfl (by decide)) ?_
   have afY:Mb x _:=⟨List.mem_of_getElem? hx⟩
   iterate 2 refine Gs ?_
   refine Gc ?_
   refine aq rfl (fun h2=> ?_) (fun h2=> ?_)
   ·
    replace h2:=bz h2
    have hz:nW (cv c)=false:=mi hx (fun g=>by omega)
    refine Gc ?_
    refine Gs ?_
    refine Gc ?_
    refine an (.inl rfl) (aK rfl (al rfl)) (fun w1 hw=> ?_)
    exact⟨congrArg (fun b=>Ending.returned (Value.bool b)) (hz.symm),ah.mem hw⟩
   ·
    replace h2:=bz h2
    refine Gc ?_
    refine Gs ?_
    refine Gc ?_
    refine bK (X:=Nat) (fun zz=>[(4, .int .i64 (zz:Nat)),(1, .pointer (some ⟨b1,0,none⟩)),(3, .int .i64 (i:Nat))]) (fun zz=>[ar b1 (aB c) 25]) (fun zz=>zz≤x.ag.xs.length∧ ∀k y,k<zz→(bv x).ag[k]? =Option.some y→y.length≤300) (fun zz=>x.ag.xs.length -zz) 0 ⟨Nat.zero_le _,fun k y hk=>by first|omega|(simp only[];omega)⟩ (Sub.cons rfl (Sub.cons rfl (Sub.cons rfl (Sub.nil _)))) (fun w hw=>ah.mem hw) ?_
    rintro j ⟨jA,db⟩
    refine Gc ?_
    iterate 4 refine Gs ?_
    refine ae (aX rfl rfl i rfl (by omega)) ?_
    refine ae (aA rfl rfl) ?_
    refine ae (bn (j:=0) rfl i hx rfl (by decide)) ?_
    have afZ:Mb x _:=⟨List.mem_of_getElem? hx⟩
    iterate 2 refine Gs ?_
    refine Gc ?_
    refine aq rfl (fun h3=> ?_) (fun h3=> ?_)
    ·
     replace h3:=bz h3
     obtain⟨y,hy⟩:=get_some (xs:=x.ag.xs) (i:=j) (by omega)
     have sM:Mb y x.ag:=⟨List.mem_of_getElem? hy⟩
     refine Gc ?_
     iterate 3 refine Gs ?_
     refine ae (aX rfl rfl i rfl (by omega)) ?_
     refine ae (aA rfl rfl) ?_
     refine ae (bn (j:=0) rfl i hx rfl (by decide)) ?_
     have R5:Mb x _:=⟨List.mem_of_getElem? hx⟩
     refine Gs ?_
     refine ae (aX rfl rfl j rfl (by omega)) ?_
     refine ae (bn (j:=0) rfl j hy rfl (by decide)) ?_
     have R6:Mb y _:=⟨List.mem_of_getElem? hy⟩
     iterate 2 refine Gs ?_
     refine Gc ?_
     refine aq rfl (fun h4=> ?_) (fun h4=> ?_)
     ·
      replace h4:=bz h4
      have hz:nW (cv c)=false:=mi hx (fun g=>by have:=g.2 y.xs (List.mem_of_getElem? (ib hy));omega)
      refine Gc ?_
      refine Gs ?_
      refine Gc ?_
      refine an (.inl rfl) (aK rfl (al rfl)) (fun w1 hw=> ?_)
      exact⟨congrArg (fun b=>Ending.returned (Value.bool b)) (hz.symm),ah.mem hw⟩
     ·
      replace h4:=bz h4
      refine Gc ?_
      iterate 3 refine Gs ?_
      refine Gi ?_
      exact bh (x:=(j)) (j+1) ⟨by first|omega|(simp only[];omega),fun k z hk hz=>if e:k=j then(by subst e;rw[show(bv x).ag=aE x.ag.xs from rfl,ib hy]at hz;cases hz;omega)else db k z (by first|omega|(simp only[];omega)) hz⟩ (by first|omega|(simp only[];omega)) (Sub.cons rfl (Sub.cons rfl (Sub.cons rfl (Sub.nil _)))) (fun w hw=>ah.mem hw)
    ·
     replace h3:=bz h3
     have p8:(bv x).ag.length≤20∧ ∀p∈(bv x).ag,p.length≤300:=⟨by simp only[bv,fk];omega,fun p hp=>by
      obtain⟨k,hk⟩:=List.getElem?_of_mem hp
      exact db k p (by have h:=(List.getElem?_eq_some_iff.1 hk).1;simp only[bv,fk]at h;omega) hk⟩
     refine Gc ?_
     iterate 3 refine Gs ?_
     refine Gi ?_
     exact bh (x:=(i)) (i+1) ⟨by first|omega|(simp only[];omega),fun j b hj hb=>if e:j=i then(by subst e;rw[fK hx]at hb;cases hb;exact p8)else aH j b (by first|omega|(simp only[];omega)) hb⟩ (by first|omega|(simp only[];omega)) (Sub.cons rfl (Sub.cons rfl (Sub.nil _))) (fun w hw=>ah.mem hw)
  ·
   replace h1:=bz h1
   obtain rfl:i=c.blocks.xs.length:=by omega
   have hz:nW (cv c)=true:=Dy.2 ⟨by simp only[cv,dH];omega,by simp only[cv];omega,fun b hb=>by
    obtain⟨j,hj⟩:=List.getElem?_of_mem hb
    exact aH j b (by have h:=(List.getElem?_eq_some_iff.1 hj).1;simp only[cv,dH]at h;omega) hj⟩
   refine Gc ?_
   refine Gs ?_
   refine Gc ?_
   refine an (.inl rfl) (aK rfl (al rfl)) (fun w1 hw=> ?_)
   exact⟨congrArg (fun b=>Ending.returned (Value.bool b)) (hz.symm),ah.mem hw⟩
instance af1{w0:World}{L:List aj}{c:Cp}[hc:aS w0 L c]:bU Tryz.prog 11 w0 L [.agg (aB c)] (.bool (nW (cv c))) (True):=⟨fun hp w hw=>Wf w c (hc.h w hw)⟩
open Go.aL Go.Kb
open Go.RowKit
theorem Wg(w:World)(b:Sv)(bs:List UInt8)(hb:bM aJ 1 (hp w) b bs):Calls Tryz.prog 133 #[b.val] w fun e w'=> ∃zz:cL,e= .returned (.tuple #[.agg (cn zz), .int .i64 ((bJ bs).2)])∧(cM zz=(bJ bs).1)∧Mem w [own bf 1 zz.at_.sv zz.at_.xs] w':=by
 have nq:Gv w b aJ 1 bs:=⟨hb⟩
 have fJ:=hb.bd
 have wk:=DA b bs
 have xR:(dw b bs).kind=(bm bs).1.kind:=congrArg PV.kind wk
 have Ee:(dw b bs).id=(bm bs).1.id:=congrArg PV.id wk
 have mN:(dw b bs).gen.toNat=(bm bs).1.gen:=congrArg PV.gen wk
 have lu:(dw b bs).body.xs=(bm bs).1.body:=congrArg PV.body wk
 have cO:=zX bs
 refine aW (args:=[_]) Tryz.func133 rfl Tryz.ntmps133 rfl ?_
 change Cw _ _ _ _ _ [(0,b.val)] []
 refine Gc ?_
 refine bx fun b2=> ?_
 refine Gs ?_
 refine Gc ?_
 iterate 3 refine Gs ?_
 refine ae (aU (v:= .agg (bZ (dw b bs))) rfl rfl) ?_
 refine ae (aU (v:= .int .i64 ((bm bs).2)) rfl rfl) ?_
 refine bx fun b4=> ?_
 iterate 2 refine Gs ?_
 refine Gc ?_
 iterate 2 refine Gs ?_
 refine Gc ?_
 refine aq rfl (fun h0=> ?_) (fun h0=> ?_)
 ·
  replace h0:=bz h0
  have hE:bJ bs=(eN,(bm bs).2):=by rw[bJ,if_pos h0]
  refine Gc ?_
  refine ae (bV (v:= .agg (cn fo)) rfl (fun w=>by kernel_rfl)) ?_
  iterate 3 refine Gs ?_
  refine Gc ?_
  refine an (.inl rfl) (aZ rfl (bG rfl) (al rfl)) (fun w1 hw=> ?_)
  exact⟨fo,by rw[hE],by rw[hE];rfl,Mem.cz bf 1 (ah.mem hw:Mem w [] _)⟩
 ·
  replace h0:=bz h0
  have kz: ¬(bm bs).2≠0:=fun h=>h h0
  refine Gc ?_
  iterate 3 refine Gs ?_
  refine Gc ?_
  refine aq rfl (fun h1=> ?_) (fun h1=> ?_)
  ·
   replace h1:=bz h1
   have hE:bJ bs=(eN,6):=by rw[bJ,if_neg kz,if_pos (by rw[←xR];exact h1)]
   refine Gc ?_
   refine ae (bV (v:= .agg (cn fo)) rfl (fun w=>by kernel_rfl)) ?_
   iterate 2 refine Gs ?_
   refine Gc ?_
   refine an (.inl rfl) (aZ rfl (bG rfl) (al rfl)) (fun w1 hw=> ?_)
   exact⟨fo,by rw[hE],by rw[hE];rfl,Mem.cz bf 1 (ah.mem hw:Mem w [] _)⟩
  ·
   replace h1:=bz h1
   have dz: ¬(bm bs).1.kind=0:=by rw[←xR];exact h1
   have su:=Px h0 dz
   have Ed:(dw b bs).body.xs.length=(bm bs).1.body.length:=by rw[lu]
   refine Gc ?_
   iterate 3 refine Gs ?_
   refine ae (gV rfl rfl (by omega) (by omega)) ?_
   refine Gs ?_
   refine Gc ?_
   iterate 4 refine Gs ?_
   iterate 3 refine Gg ?_
   refine bD rfl rfl rfl (fun hg=>(Ry.yl (uY (p:=(((dw b bs).body).xs).length) (q:=2) (av hg rfl) rfl rfl rfl (by simp only[Z0,Z1,Z2,Z3,Z4,Z5,Z6,Z7,Z8,Z9]at hg;omega)))) ?_
   refine Gg ?_
   iterate 2 refine Gs ?_
   iterate 2 refine Gg ?_
   iterate 2 refine Gs ?_
   iterate 2 refine Gg ?_
   refine bD rfl rfl rfl (fun hg=>(Ry.yl (au (av hg rfl)))) ?_
   refine jF rfl rfl rfl (fun hg=>(Ry.yl (aA (o':=1) rfl rfl))) ?_
   refine jF rfl rfl rfl (fun hg=>(Ry.yl (bl (av hg rfl)))) ?_
   refine jF rfl rfl rfl (fun hg=>(Ry.yl (au rfl))) ?_
   refine jF rfl rfl rfl (fun hg=>(Ry.yl (qx (av hg rfl) rfl (by simp only[Z0,Z1,Z2,Z3,Z4,Z5,Z6,Z7,Z8,Z9]at hg;omega)))) ?_
   refine jF rfl rfl rfl (fun hg=>(Ry.yl (bt (av hg rfl) (av hg rfl) rfl))) ?_
   refine bD rfl rfl rfl (fun hg=>(Ry.yl (nD (av hg rfl) (oA hg rfl) rfl))) ?_
   iterate 2 refine Gs ?_
   iterate 2 refine Gg ?_
   refine bD rfl rfl rfl (fun hg=>(Ry.yl (au (av hg rfl)))) ?_
   refine jF rfl rfl rfl (fun hg=>(Ry.yl (aA (o':=1) rfl rfl))) ?_
   refine jF rfl rfl rfl (fun hg=>(Ry.yl (bl (av hg rfl)))) ?_
   refine jF rfl rfl rfl (fun hg=>(Ry.yl (bt (av hg rfl) rfl rfl))) ?_
   refine bD rfl rfl rfl (fun hg=>(Ry.yl (nD (av hg rfl) (oA hg rfl) rfl))) ?_
   refine Gs ?_
   refine Gc ?_
   refine aq rfl (fun h2=> ?_) (fun h2=> ?_)
   ·
    replace h2:=bz h2
    have gw:m7 (bm bs).1=false:=by
     cases hk:m7 (bm bs).1 with
     |false=>rfl
     |true=>
      simp only[m7,Bool.and_eq_true,decide_eq_true_eq]at hk
      omega
    have hE:bJ bs=(eN,2):=by rw[bJ,if_neg kz,if_neg dz,if_pos gw]
    refine Gc ?_
    refine ae (bV (v:= .agg (cn fo)) rfl (fun w=>by kernel_rfl)) ?_
    iterate 2 refine Gs ?_
    refine Gc ?_
    refine an (.inl rfl) (aZ rfl (bG rfl) (al rfl)) (fun w1 hw=> ?_)
    exact⟨fo,by rw[hE],by rw[hE];rfl,Mem.cz bf 1 (ah.mem hw:Mem w [] _)⟩
   ·
    replace h2:=bz h2
    have gw:m7 (bm bs).1=true:=by
     simp only[m7,Bool.and_eq_true,decide_eq_true_eq]
     omega
    have hE:bJ bs=(⟨(dw b bs).gen.toNat,kH (bm bs).1.body⟩,0):=by rw[bJ,if_neg kz,if_neg dz,if_neg (by rw[gw];simp),mN]
    have Ef:=zZ (bm bs).1.body
    refine Gc ?_
    iterate 2 refine Gs ?_
    refine ae (bV (v:= .agg (cn ⟨(dw b bs).gen,⟨Sv.none,[]⟩⟩)) rfl (JI (dw b bs).gen)) ?_
    refine bx fun b7=> ?_
    refine Gs ?_
    refine Gc ?_
    refine Gs ?_
    refine Gc ?_
    refine bK (X:=Nat×Sv) (fun zz=>[(8, .int .i64 (zz.1:Nat)),(7, .pointer (some ⟨b7,0,none⟩)),(2, .pointer (some ⟨b2,0,none⟩)),(4, .pointer (some ⟨b4,0,none⟩)),(6, .int .i64 (((((dw b bs).body).xs).length/2):Nat))]) (fun zz=>[ar b7 (cn ⟨(dw b bs).gen,⟨zz.2,((kH (bm bs).1.body).take zz.1)⟩⟩) 147,own bf 1 zz.2 ((kH (bm bs).1.body).take zz.1),ar b4 (bZ (dw b bs)) 110,ar b2 (cn fo) 147]) (fun zz=>zz.1≤(bm bs).1.body.length/2) (fun zz=>(bm bs).1.body.length/2 -zz.1) (0,Sv.none) (Nat.zero_le _) (Sub.cons rfl (Sub.cons rfl (Sub.cons rfl (Sub.cons rfl (Sub.cons rfl (Sub.nil _)))))) (fun w hw=>by
     simp only[List.take_zero];exact ah.mem (Mem.cz bf 1 hw)) ?_
    rintro⟨i,s1⟩ bb
    dsimp only
    simp only at bb
    refine Gc ?_
    iterate 3 refine Gs ?_
    refine Gc ?_
    refine aq rfl (fun h3=> ?_) (fun h3=> ?_)
    ·
     replace h3:=bz h3
     have dN:=HG (b:=(bm bs).1.body) (i:=i) (by omega)
     have KE:de (((dw b bs).body.xs.drop (2*i)).take (2*i+2 -2*i))=(kD ((bm bs).1.body.getD (2*i) 0) ((bm bs).1.body.getD (2*i+1) 0)).toNat:=by rw[lu];exact PB (by omega)
     have Wh:((de (((dw b bs).body.xs.drop (2*i)).take (2*i+2 -2*i)):Nat):Int)=(jr (bm bs).1.body i):=by rw[KE];rfl
     have af2:=(kD ((bm bs).1.body.getD (2*i) 0) ((bm bs).1.body.getD (2*i+1) 0)).toNat_lt
     refine Gc ?_
     refine oN [12,13,15,1001,2012] [[],[],[],[],[],[],[],[],[],[],[],[],[],[1,12],[1,12,13],[1,12,13]] [0,1,2,3,4,5,6,7,8,9,10,11,12,13,14,15] [ar b4 (bZ (dw b bs)) 110] [(12,nN bf 1 1 [(jr (bm bs).1.body i)])] (by kernel_rfl) (fun _ hw=>ah.mem hw) (by kernel_rfl) (by kernel_rfl) ?_
     refine ak rfl (aA (o':=1) rfl rfl) ?_
     refine jo rfl (bl rfl) ?_
     refine ak rfl (aA (o':=3) rfl rfl) ?_
     refine ak rfl (bl rfl) ?_
     refine ak rfl (au rfl) ?_
     refine ak rfl (nE rfl rfl (by omega)) ?_
     refine ak rfl (au rfl) ?_
     refine ak rfl (nE rfl rfl (by omega)) ?_
     refine ak rfl (gk rfl rfl (by omega)) ?_
     have KF:Rg (2*i) ((2*i)+2) (((dw b bs).body).xs).length:=⟨by omega⟩
     refine ak rfl (rL rfl rfl rfl (2*i) ((2*i)+2) rfl rfl KF.h.1 KF.h.2) ?_
     refine nM rfl (bX rfl (by rw[List.length_take];omega)) ?_
     refine ak rfl (Ry.to (v':= .int .i64 (jr (bm bs).1.body i)) (mw rfl (by simp only[nb];rw[KE];omega)) (by rw[Wh])) ?_
     refine mZ (m:=nN bf 1 1 [(jr (bm bs).1.body i)]) rfl rfl (zw (enc:=bf) (c:=1) (n:=1) (vals:=[.int .i64 (jr (bm bs).1.body i)]) [(jr (bm bs).1.body i)] rfl rfl rfl (by decide) (by decide)) (Cert.none rfl) fun A9=> ?_
     change Ln _ _ _ _ _ _ _ _ (cm _ _ (Sv.val ⟨false,A9,0,1,1,none⟩)) (own bf 1 ⟨false,A9,0,1,1,none⟩ [(jr (bm bs).1.body i)]::_) _
     refine cK rfl (zv (s:=s1) (ys:=[(jr (bm bs).1.body i)]) rfl rfl (by decide) (fun w hw=>gX (s:=⟨false,A9,0,1,1,none⟩) Tryz.underlying26 (by decide) ((inferInstance:Hd _ _ ⟨false,A9,0,1,1,none⟩ bf 1 [(jr (bm bs).1.body i)]).h w hw)) (by simp only[List.length_take,List.length_cons,List.length_nil];omega) (by simp only[List.length_take,List.length_cons,List.length_nil];omega) fun KG af3 af4=>⟨fun _ hw=>ah.mem hw,?_⟩)
     refine ak rfl (aA (o':=1) rfl rfl) ?_
     refine cK rfl (tI (cs':=cn (⟨(dw b bs).gen,⟨KG,(((kH (bm bs).1.body).take i)++[(jr (bm bs).1.body i)])⟩⟩:cL)) rfl rfl (by show 1<2;decide) (by first|rfl|exact Sv.one _) rfl ⟨fun _ hw=>ah.mem hw,?_⟩)
     refine Gc ?_
     iterate 3 refine Gs ?_
     refine Gi ?_
     exact bh (x:=(i,s1)) (i+1,KG) (by simp only;omega) (by simp only;omega) (Sub.cons rfl (Sub.cons rfl (Sub.cons rfl (Sub.cons rfl (Sub.cons rfl (Sub.nil _)))))) (fun w hw=>by
      simp only[dN];exact ah.mem hw)
    ·
     replace h3:=bz h3
     obtain rfl:i=(bm bs).1.body.length/2:=by omega
     rw[List.take_of_length_le (by omega)]at*
     refine Gc ?_
     iterate 3 refine Gs ?_
     refine Gc ?_
     refine an (.inl rfl) (aZ rfl (bG rfl) (al rfl)) (fun w1 hw=> ?_)
     exact⟨⟨(dw b bs).gen,⟨s1,kH (bm bs).1.body⟩⟩,by rw[hE],by rw[hE];rfl,ah.mem hw⟩
instance af5{w0:World}{L:List aj}{b:Sv}{bs:List UInt8}[hb:cl w0 L aJ 1 b bs]:bW Tryz.prog 133 w0 L [b.val] (cL) (fun zz=> .tuple #[.agg (cn zz), .int .i64 ((bJ bs).2)]) (fun zz=>own bf 1 zz.at_.sv zz.at_.xs::L) (fun zz=>cM zz=(bJ bs).1) (True):=⟨fun hp w hw=>(Wg w b bs (hb.h w hw)).mono fun e w' ⟨x,h1,h2,h3⟩=>⟨x,h1,h2,hw.call h3⟩⟩
theorem Wi(w:World)(l:Sl (Sl UInt8))(hl:Deep.bk (hp w) l):Calls Tryz.prog 94 #[l.sv.val] w fun e w'=> ∃zz:cL,e= .returned (.tuple #[.int .i64 ((c0 (aE l.xs)).1), .agg (cn zz), .int .i64 ((c0 (aE l.xs)).2.2)])∧(cM zz=(c0 (aE l.xs)).2.1)∧Mem w [own bf 1 zz.at_.sv zz.at_.xs] w':=by
 have nt:bT w l:=⟨hl⟩
 have fJ:=hl.1.bd
 have fA:=fk l.xs
 refine aW (args:=[_]) Tryz.func94 rfl Tryz.ntmps94 rfl ?_
 change Cw _ _ _ _ _ [(0,l.sv.val)] []
 refine Gc ?_
 refine Gs ?_
 refine bx fun b3=> ?_
 refine Gs ?_
 refine Gc ?_
 refine Gs ?_
 refine Gc ?_
 refine Gs ?_
 refine Gc ?_
 refine bK (X:=Nat) (fun zz=>[(6, .int .i64 (zz:Nat)),(5, .bool (((aE l.xs).take zz).all eW)),(0,l.sv.val),(3, .pointer (some ⟨b3,0,none⟩))]) (fun zz=>[ar b3 (cn fo) 147]) (fun zz=>zz≤l.xs.length∧ ∀j,j<zz→qW (aE l.xs) j=false) (fun zz=>l.xs.length -zz) 0 ⟨Nat.zero_le _,fun j hj=>by first|omega|(simp only[];omega)⟩ (Sub.cons rfl (Sub.cons (look_eq rfl (by rw[List.take_zero];rfl)) (Sub.cons rfl (Sub.cons rfl (Sub.nil _))))) (fun w hw=>ah.mem hw) ?_
 rintro i ⟨bb,aH⟩
 refine Gc ?_
 iterate 4 refine Gs ?_
 refine Gc ?_
 refine aq rfl (fun h0=> ?_) (fun h0=> ?_)
 ·
  replace h0:=bz h0
  obtain⟨y,hy⟩:=get_some (xs:=l.xs) (i:=i) (by omega)
  have sM:Mb y l:=⟨List.mem_of_getElem? hy⟩
  have xS:=ib hy
  have wq:(aE l.xs).getD i []=y.xs:=by simp[List.getD,xS]
  have Wj:(((aE l.xs).take (i+1)).all eW)=((((aE l.xs).take i).all eW)&&eW y.xs):=by rw[List.take_add_one,xS];simp
  refine Gc ?_
  iterate 2 refine Gs ?_
  refine ae (aX rfl rfl i rfl (by omega)) ?_
  refine ae (bn (j:=0) rfl i hy rfl (by decide)) ?_
  refine bp rfl trivial fun cQ n7=> ?_
  refine Gs ?_
  refine ae (aU (v:= .agg (cn cQ)) rfl rfl) ?_
  refine ae (aU (v:= .int .i64 ((bJ y.xs).2)) rfl rfl) ?_
  refine bx fun b7=> ?_
  iterate 2 refine Gs ?_
  refine Gc ?_
  iterate 3 refine Gs ?_
  refine Gc ?_
  refine Gs ?_
  refine Gc ?_
  refine bK (X:=Nat) (fun zz=>[(10, .int .i64 (zz:Nat)),(9, .bool (nY (aE l.xs) i zz)),(0,l.sv.val),(3, .pointer (some ⟨b3,0,none⟩)),(5, .bool (((aE l.xs).take i).all eW)),(6, .int .i64 (i:Nat)),(7, .pointer (some ⟨b7,0,none⟩))]) (fun zz=>[ar b7 (cn cQ) 147,own bf 1 cQ.at_.sv cQ.at_.xs,ar b3 (cn fo) 147]) (fun zz=>zz≤l.xs.length) (fun zz=>l.xs.length -zz) 0 (Nat.zero_le _) (Sub.cons rfl (Sub.cons (look_eq rfl (by rw[nY,wq])) (Sub.cons rfl (Sub.cons rfl (Sub.cons rfl (Sub.cons rfl (Sub.cons rfl (Sub.nil _)))))))) (fun w hw=>ah.mem hw) ?_
  rintro k D2
  refine Gc ?_
  iterate 4 refine Gs ?_
  refine Gc ?_
  refine aq rfl (fun h1=> ?_) (fun h1=> ?_)
  ·
   replace h1:=bz h1
   obtain⟨z,hz⟩:=get_some (xs:=l.xs) (i:=k) (by omega)
   have n5:Mb z l:=⟨List.mem_of_getElem? hz⟩
   have Wk:=ib hz
   have rk:(aE l.xs).getD k []=z.xs:=by simp[List.getD,Wk]
   have yp:=IM (l:=(aE l.xs)) (i:=i) (k:=k)
   rw[wq,rk]at yp
   refine Gc ?_
   iterate 2 refine Gs ?_
   refine ae (aX rfl rfl k rfl (by omega)) ?_
   refine ae (bn (j:=0) rfl k hz rfl (by decide)) ?_
   refine bp rfl trivial fun E9 KH=> ?_
   refine Gs ?_
   refine ae (aU (v:= .agg (cn E9)) rfl rfl) ?_
   refine ae (aU (v:= .int .i64 ((bJ z.xs).2)) rfl rfl) ?_
   refine bx fun nu=> ?_
   iterate 2 refine Gs ?_
   refine Gc ?_
   iterate 3 refine Gs ?_
   iterate 5 refine Gg ?_
   refine dG rfl rfl rfl (fun hg=>(Ry.yl (au (av hg rfl)))) ?_
   refine kU rfl rfl rfl (fun hg=>(Ry.yl (aA (o':=0) rfl rfl))) ?_
   refine kU rfl rfl rfl (fun hg=>(Ry.yl (bl (av hg rfl)))) ?_
   refine kU rfl rfl rfl (fun hg=>(Ry.yl (aA (o':=0) rfl rfl))) ?_
   refine kU rfl rfl rfl (fun hg=>(Ry.yl (bl (av hg rfl)))) ?_
   refine kU rfl rfl rfl (fun hg=>(Ry.yl (bt (av hg rfl) (av hg rfl) rfl))) ?_
   refine kU rfl rfl rfl (fun hg=>(Ry.yl (au (av hg rfl)))) ?_
   refine jF rfl rfl rfl (fun hg=>(Ry.yl (au rfl))) ?_
   refine jF rfl rfl rfl (fun hg=>(Ry.yl (au rfl))) ?_
   refine jF rfl rfl rfl (fun hg=>(Ry.yl (bt (av hg rfl) (av hg rfl) rfl))) ?_
   refine kU rfl rfl rfl (fun hg=>(Ry.yl (nD (av hg rfl) (oA hg rfl) rfl))) ?_
   refine dG rfl rfl rfl (fun hg=>(Ry.yl (hM (av hg rfl) rfl (oA hg rfl)))) ?_
   refine Gs ?_
   refine Gc ?_
   refine aq rfl (fun h2=> ?_) (fun h2=> ?_)
   ·
    replace h2:=bz h2
    have bH:nY (aE l.xs) i (k+1)=false:=by
     rw[yp,if_pos]
     have e1:=congrArg RV.gen KH
     have e2:=congrArg RV.gen n7
     change E9.gen.toNat=_ at e1
     change cQ.gen.toNat=_ at e2
     rw[←e1,←e2]
     refine⟨h2.1,?_⟩
     rcases h2.2 with h|h
     ·
      exact .inl (by omega)
     ·
      exact .inr ⟨by omega,by omega⟩
    refine Gi ?_
    refine Gs ?_
    refine Gc ?_
    iterate 3 refine Gs ?_
    refine Gi ?_
    exact bh (x:=(k)) (k+1) (by first|omega|(simp only[];omega)) (by first|omega|(simp only[];omega)) (Sub.cons rfl (Sub.cons (look_eq rfl (by rw[bH])) (Sub.cons rfl (Sub.cons rfl (Sub.cons rfl (Sub.cons rfl (Sub.cons rfl (Sub.nil _)))))))) (fun w hw=>ah.mem hw)
   ·
    replace h2:=bz h2
    have bH:nY (aE l.xs) i (k+1)=nY (aE l.xs) i k:=by
     rw[yp,if_neg]
     have e1:=congrArg RV.gen KH
     have e2:=congrArg RV.gen n7
     change E9.gen.toNat=_ at e1
     change cQ.gen.toNat=_ at e2
     rw[←e1,←e2]
     rintro⟨g1,g2⟩
     rcases h2 with h|h
     ·
      exact h g1
     ·
      rcases g2 with g|g
      ·
       exact h.1 (by omega)
      ·
       rcases h.2 with h|h
       ·
        exact h (by omega)
       ·
        exact h (by omega)
    refine Gc ?_
    iterate 3 refine Gs ?_
    refine Gi ?_
    exact bh (x:=(k)) (k+1) (by first|omega|(simp only[];omega)) (by first|omega|(simp only[];omega)) (Sub.cons rfl (Sub.cons (look_eq rfl (by rw[bH])) (Sub.cons rfl (Sub.cons rfl (Sub.cons rfl (Sub.cons rfl (Sub.cons rfl (Sub.nil _)))))))) (fun w hw=>ah.mem hw)
  ·
   replace h1:=bz h1
   obtain rfl:k=l.xs.length:=by omega
   have sH:qW (aE l.xs) i=nY (aE l.xs) i l.xs.length:=by rw[PC,fA]
   refine Gc ?_
   refine Gs ?_
   refine Gc ?_
   refine aq rfl (fun h3=> ?_) (fun h3=> ?_)
   ·
    replace h3:=bz h3
    have hE:=PD (l:=(aE l.xs)) (i:=i) (by omega) (sH.trans h3)
    rw[wq]at hE
    refine Gi ?_
    refine fw [3] [[],[],[],[],[3]] [0,1,2,3,4] [ar b7 (cn cQ) 147] (fun _ hw=>ah.mem hw) (by kernel_rfl) (by kernel_rfl) ?_
    refine ak rfl (au rfl) ?_
    refine ak rfl (dW rfl) ?_
    refine ak rfl (aP rfl) ?_
    refine cK rfl (km rfl rfl ⟨fun _ hw=>ah.mem hw,?_⟩)
    refine ak rfl (aP rfl) ?_
    refine Gc ?_
    refine an (.inl rfl) (oF rfl (al rfl) (bG rfl) (al rfl)) (fun w1 hw=> ?_)
    exact⟨cQ,by rw[hE],by rw[hE];exact n7,ah.mem hw⟩
   ·
    replace h3:=bz h3
    have nS:qW (aE l.xs) i=false:=sH.trans h3
    refine Gc ?_
    iterate 2 refine Gs ?_
    iterate 2 refine Gg ?_
    refine dG rfl rfl rfl (fun hg=>(Ry.yl (aX (av hg rfl) (av hg rfl) i rfl (by omega)))) ?_
    refine dG rfl rfl rfl (fun hg=>(Ry.yl (bn (j:=0) (av hg rfl) i hy rfl (by decide)))) ?_
    refine dG rfl rfl rfl (fun hg=>bX (cg (av hg rfl) dO) trivial) ?_
    iterate 2 refine Gs ?_
    refine Gc ?_
    iterate 3 refine Gs ?_
    refine Gi ?_
    exact bh (x:=(i)) (i+1) ⟨by first|omega|(simp only[];omega),fun j hj=>if e:j=i then e▸nS else aH j (by first|omega|(simp only[];omega))⟩ (by first|omega|(simp only[];omega)) (Sub.cons rfl (Sub.cons (look_eq rfl (by rw[Wj])) (Sub.cons rfl (Sub.cons rfl (Sub.nil _))))) (fun w hw=>ah.mem hw)
 ·
  replace h0:=bz h0
  obtain rfl:i=l.xs.length:=by omega
  have hz:=PE (l:=(aE l.xs)) (fun j hj=>aH j (by omega))
  have KI:(((aE l.xs).take l.xs.length).all eW)=(aE l.xs).all eW:=by rw[←fA,List.take_length]
  refine Gc ?_
  refine Gs ?_
  refine Gc ?_
  refine aq rfl (fun h4=> ?_) (fun h4=> ?_)
  ·
   replace h4:=bz h4
   have hE:c0 (aE l.xs)=(0,eN,6):=by rw[hz,if_pos (KI▸h4)]
   refine Gc ?_
   refine ae (bV (v:= .agg (cn fo)) rfl (fun w=>by kernel_rfl)) ?_
   iterate 3 refine Gs ?_
   refine Gc ?_
   refine an (.inl rfl) (oF rfl (al rfl) (bG rfl) (al rfl)) (fun w1 hw=> ?_)
   exact⟨fo,by rw[hE],by rw[hE];rfl,Mem.cz bf 1 (ah.mem hw:Mem w [] _)⟩
  ·
   replace h4:=bz h4
   have hE:c0 (aE l.xs)=(0,eN,2):=by rw[hz,if_neg (by rw[←KI,h4];simp)]
   refine Gc ?_
   refine ae (bV (v:= .agg (cn fo)) rfl (fun w=>by kernel_rfl)) ?_
   iterate 3 refine Gs ?_
   refine Gc ?_
   refine an (.inl rfl) (oF rfl (al rfl) (bG rfl) (al rfl)) (fun w1 hw=> ?_)
   exact⟨fo,by rw[hE],by rw[hE];rfl,Mem.cz bf 1 (ah.mem hw:Mem w [] _)⟩
instance Wl{w0:World}{L:List aj}{l:Sl (Sl UInt8)}[hl:aS w0 L l]:bW Tryz.prog 94 w0 L [l.sv.val] (cL) (fun zz=> .tuple #[.int .i64 ((c0 (aE l.xs)).1), .agg (cn zz), .int .i64 ((c0 (aE l.xs)).2.2)]) (fun zz=>own bf 1 zz.at_.sv zz.at_.xs::L) (fun zz=>cM zz=(c0 (aE l.xs)).2.1) (True):=⟨fun hp w hw=>(Wi w l (hl.h w hw)).mono fun e w' ⟨x,h1,h2,h3⟩=>⟨x,h1,h2,hw.call h3⟩⟩
end Go.Proofs.YtaipiecplldinaaGreat
