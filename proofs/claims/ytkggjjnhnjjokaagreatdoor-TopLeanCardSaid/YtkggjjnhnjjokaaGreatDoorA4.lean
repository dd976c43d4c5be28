/- Part of a proof. -/
import Derived.Test.YtkggjjnhnjjokaaGreatDoorA3
import Derived.Lib.BytesEntry
import Derived.Test.YtkggjjnhnjjokaaGreatDoorA1
import Derived.Test.YtkggjjnhnjjokaaGreatDoorA2
import Derived.Maps.Keyed
set_option maxRecDepth 20000
set_option linter.unusedSimpArgs false
set_option linter.unusedVariables false
namespace Go.Proofs.YtkggjjnhnjjokaaGreatDoor
open Go.ax Go.Kb
theorem adv(s:ByteArray)(hs:(List.range 256).all (fun j=>(s[j]?).map (·.toNat)==some (len8 j))=true)(x:Nat)(hx:x<256):(s[(x:Int).toNat]?).map (·.toNat)=some (len8 x):=by
 have:=atk.1 hs x (aty.2 hx);simpa using this
theorem adw(n:Int):kD Tryz.prog 126 [.int .i64 n] (.bool (decide (n=32)||decide (n=128))):=⟨fun w=>by
 refine cD Tryz.func126 rfl Tryz.ntmps126 rfl ?_;refine ba ?_;refine bn rfl rfl rfl (fun hg=>(aU rfl).yl) (bn rfl rfl rfl (fun hg=>(dz (az hg rfl) rfl rfl).yl) (al ?_));refine eV (.inl rfl) (jb rfl rfl) (fun w hw=>?_);exact⟨rfl,hw.sub (atu _)⟩⟩
instance aoT(n:Int):kD Tryz.prog 126 [.int .i64 n] (.bool (decide (n=32)||decide (n=128))):=adw n
theorem adx(k:Key)(h:Nat)(hh:h<=16):over (bI 0#128) 0 ((bI k).extract 0 h)=bI (cm k ((8*h:Nat):Int)):=by
 refine J4 (by simp[over,gq];omega) fun i hi=>?_;have hl:((bI k).extract 0 h).size=h:=by simp[gq];omega
 rw[C5 k (8*h) i hi];simp only[over,hl,atH,atQ,atF,auj]
 by_cases h1:i<h
 ·
  rw[atb (by simp[gq];omega),if_pos oM];have:=jQ k i hi;simpa[h1]using this
 rw[ata (by simp[gq];omega),if_neg oM];have h2:(bI 0#128)[i]? =some (.int .u8 ((0:Nat):Int)):=by rw[jQ _ i hi];simp[aY]
 simp only[au7,hl,aug,show h+(i -h)=i by omega];rw[Array.getElem?_toList,h2]
 by_cases h3:8*i<=8*h
 ·
  rw[if_pos h3,show 8 -(8*h -8*i)=8 by omega,Nat.div_eq_of_lt (gp k i),Nat.zero_mul]
 rw[if_neg h3]
theorem ady(b r:Nat)(hb:b<256)(hr:r<=8):lZ .andNot .u8 b ((255/2^r:Nat):Int)=some (.int .u8 ((b/2^(8 -r)*2^(8 -r):Nat):Int)):=by
 have hm:255/2^r<256:=auG (Nat.div_le_self _ _) oM;rw[Yd hb hm];have key:b&&&(256 -1 -255/2^r)=b/2^(8 -r)*2^(8 -r):=by
  have e1:255/2^r=2^(8 -r) -1:=by
   match r,hr with
   |0,_|1,_|2,_|3,_|4,_|5,_|6,_|7,_|8,_=>rfl
   |n+9,h=>omega
  rw[e1];apply au1;intro j;have e2:256 -1 -(2^(8 -r) -1)=2^8 -(2^(8 -r) -1+1):=by omega
  rw[Nat.testBit_and,e2,Nat.testBit_two_pow_sub_succ (by have:2^(8 -r)<=2^8:=auc (by decide) oM;have:=Nat.two_pow_pos (8 -r);omega),Nat.testBit_two_pow_sub_one,Nat.testBit_mul_two_pow,auM]
  by_cases hj:8 -r<=j
  ·
   simp only[hj,show ¬j<8 -r by omega,decide_true,decide_false,au4,Bool.and_true,atU,show j -(8 -r)+(8 -r)=j by omega]
   by_cases h8:j<8
   ·
    simp[h8]
   have:b.testBit j=false:=auo (atS hb (by have:=auc (n:=2) (by decide) (show 8<=j by omega);simpa using this));simp[this]
  simp[hj,show j<8 -r by omega]
 show some (Value.int .u8 ((b&&&(256 -1 -255/2^r):Nat):Int))=_;rw[key]
theorem adz(k:Key)(n:Int)(h0:1<=n)(h1:n<128)(h2:0<n%8):(bI (cm k ((8*(n/8).toNat:Nat):Int))).setIfInBounds (n/8).toNat (.int .u8 ((aY k (n/8).toNat/2^(8 -(n%8).toNat)*2^(8 -(n%8).toNat):Nat):Int))=bI (cm k n):=by
 have hb:=gp k (n/8).toNat;rw[YX _ _ _ oM (auG (Nat.div_mul_le_self _ _) hb)];congr 1;refine sR fun i hi=>?_;rw[J3 _ _ _ i hi (auG (Nat.div_mul_le_self _ _) hb),C5 k _ i hi];have e:cm k n=cm k ((n.toNat:Nat):Int):=by rw[aub oM]
 rw[e,C5 k n.toNat i hi]
 by_cases hj:i=(n/8).toNat
 ·
  rw[if_pos hj,if_neg oM,if_pos oM,hj,show n.toNat -8*(n/8).toNat=(n%8).toNat by omega]
 rw[if_neg hj]
 by_cases bc:i<(n/8).toNat
 ·
  rw[if_pos oM,if_pos oM]
 rw[if_neg oM,if_neg oM,if_neg oM,if_neg oM]
theorem adA(k:Key)(n:Int)(h0:1<=n)(h2: ¬0<n%8):cm k ((8*(n/8).toNat:Nat):Int)=cm k n:=by
 congr 1;omega
theorem adB(k:Key)(n:Int):kD Tryz.prog 22 [.agg (bI k), .int .i64 n] (.agg (bI (cm k n))):=⟨fun w=>by
 refine cQ Tryz.func22 rfl Tryz.ntmps22 rfl ?_;refine Gc ?_;refine bN rfl fun b2=>bl fun b4=>av ?_;refine gn rfl (fun h0=>?_) (fun h0=>?_)
 ·
  have h0:=of_decide_eq_true h0;refine av ?_;refine eV (.inl rfl) (Fw rfl rfl) (fun w hw=>?_);exact⟨by rw[PM k n oM],hw.sub (atu _)⟩
 have h0:=of_decide_eq_false h0;refine Gc ?_;refine bl fun b5=>av ?_;refine gn rfl (fun h1=>?_) (fun h1=>?_)
 ·
  have h1:=of_decide_eq_true h1;refine av ?_;refine eV (.inl rfl) (Fw rfl rfl) (fun w hw=>?_);exact⟨by rw[FM k n oM],hw.sub (atu _)⟩
 have h1:=of_decide_eq_false h1;refine aA ?_;refine ag (mK rfl rfl oM oM) (Gs ?_);refine kZ ?_;refine yR 4 [] oK oK ?_;simp only[aum,atH];refine Gq ?_;refine bE (O6 rfl rfl oM oM) (Gq ?_);refine bE (O6 rfl rfl oM oM) (w9 (xd ?_));simp only[au8,auu];refine Ju (vs:=(bI k).extract 0 (n/8).toNat) rfl rfl (by have e:Nat.min (n/8).toNat (n/8).toNat=(n/8).toNat:=Nat.min_self _;rw[e,Array.size_extract,gq];omega) (fun w hw j hj=>by rw[Addr.ie,hw.cell (Has.h (b:=b2)),atF];simp at hj;simp[hj]) (Yh (gk.one (cs:=bI k)) _ _) (by rw[Array.size_extract,gq,gq];omega) (adx k _ oM) (aA ?_);refine ag (AB rfl rfl oM oM) (aN ?_);refine gn rfl (fun h2=>?_) (fun h2=>?_)
 ·
  have h2:=of_decide_eq_true h2;refine yR 8 [] oK oK ?_;simp only[aum,atH];refine aA ?_;refine bE (ny rfl rfl oM oM) (bE (uc rfl (jQ _ _ oM)) (Gq ?_));refine bE (w8 (p:=255) rfl rfl (by decide) oM) (bE (dz rfl rfl (ady _ _ (gp _ _) oM)) (bE (ny rfl rfl oM oM) (w9 (xd ?_))));simp only[au8,auu];refine eU rfl rfl (by rw[gq];omega) rfl (adz k n oM oM h2) (av ?_);refine eV (.inl rfl) (Fw rfl rfl) (fun w hw=>?_);exact⟨rfl,hw.sub (atu _)⟩
 have h2:=of_decide_eq_false h2;refine av ?_;refine eV (.inl rfl) (Fw rfl rfl) (fun w hw=>?_);exact⟨by rw[adA k n oM h2],hw.sub (atu _)⟩⟩
instance aoU(k:Key)(n:Int):kD Tryz.prog 22 [.agg (bI k), .int .i64 n] (.agg (bI (cm k n))):=adB k n
theorem adC(x:Nat)(hx:x<256):kD Tryz.prog 239 [.int .u8 x] (.int .i64 (len8 x)):=⟨fun w=>by
 refine cD Tryz.func239 rfl Tryz.ntmps239 rfl ?_;refine av ?_;refine ag (O9 Tryz.underlying9 rfl rfl (Int.natCast_nonneg _) (adv _ (by decide+kernel) x hx)) (ag (kE rfl (auG (FP x hx) (by decide))) (aA ?_));refine eV (.inl rfl) (jb rfl rfl) (fun w hw=>?_);exact⟨rfl,hw.sub (atu _)⟩⟩
theorem adD(x:Nat)(hx:x<256):kD Tryz.prog 203 [.int .u8 x] (.int .i64 (8 -len8 x:Int)):=⟨fun w=>by
 have hl:=FP x hx;refine cD Tryz.func203 rfl Tryz.ntmps203 rfl ?_;refine av ?_;refine eC (AA rfl (fun w _=>(adC x hx).h w)) (al ?_);refine eV (.inl rfl) (jb rfl rfl) (fun w hw=>?_);exact⟨rfl,hw.sub (atu _)⟩⟩
theorem adE(a b:Key):kD Tryz.prog 145 [.agg (bI a), .agg (bI b)] (.int .i64 (xu a b)):=⟨fun w=>by
 refine cQ Tryz.func145 rfl Tryz.ntmps145 rfl ?_;refine Gc ?_;refine bN rfl fun b2=>bN rfl fun b3=>av ?_;refine bR (X:=Int) (fun i=>[(6, .int .i64 i),(2, .pointer (some ⟨b2,0,none⟩)),(3, .pointer (some ⟨b3,0,none⟩))]) (fun i=>[aq b3 (bI b) 25,aq b2 (bI a) 25]) (fun i=>0<=i/\i<=16/\ ∀j:Nat,(j:Int)<i->aY a j=aY b j) (fun i=>(16 -i).toNat) 0 ⟨by omega,by omega,fun j h=>by omega⟩ sb (fun w hw=>hw) ?_;rintro i ⟨yN,bg,hs⟩;refine al ?_;refine gn rfl (fun h0=>?_) (fun h0=>?_)
 ·
  have h0:=of_decide_eq_true h0;refine av ?_;refine gm oK oK (Gq ?_);refine bE (ny rfl rfl oM oM) (bE (uc rfl (jQ _ _ oM)) (Gq ?_));refine bE (ny rfl rfl oM oM) (bE (uc rfl (jQ _ _ oM)) (aA ?_));refine gn rfl (fun h1=>?_) (fun h1=>?_)
  ·
   simp at h1;have hx:=avg (n:=8) (gp a i.toNat) (gp b i.toNat);have hl:=FP _ hx;refine Gi ?_;refine gm oK oK (Gq ?_);refine bE (rJ rfl rfl oM) (Gq ?_);refine bE (ny rfl rfl oM oM) (bE (uc rfl (jQ _ _ oM)) (Gq ?_));refine bE (ny rfl rfl oM oM) (bE (uc rfl (jQ _ _ oM)) (bE (Jp rfl rfl rfl rfl (gp _ _) (gp _ _)) (qI (AA rfl (fun w _=>(adD _ (avg (n:=8) (gp a i.toNat) (gp b i.toNat))).h w)) (al ?_))));refine eV (.inl rfl) (jb rfl rfl) (fun w hw=>?_);exact⟨by rw[Y3 (i:=i.toNat) oM (fun j hj=>hs j oM) oM,aub yN],hw.sub (atu _)⟩
  simp at h1;refine al ?_;refine Gi ?_;exact bm (i+1) ⟨by omega,by omega,fun j hj=>if e:(j:Int)=i then(by rw[show j=i.toNat by omega];omega)else hs j oM⟩ oM sb (fun w hw=>hw)
 have h0:=of_decide_eq_false h0;refine al ?_;refine eV (.inl rfl) (jb rfl rfl) (fun w hw=>?_);exact⟨by rw[Y5 (fun j hj=>hs j oM)],hw.sub (atu _)⟩⟩
instance aoV(a b:Key):kD Tryz.prog 145 [.agg (bI a), .agg (bI b)] (.int .i64 (xu a b)):=adE a b
theorem adF(k:Key)(n:Int):kD Tryz.prog 125 [.agg (bI k), .int .i64 n] (.int .i64 (ji k n)):=⟨fun w=>by
 refine cQ Tryz.func125 rfl Tryz.ntmps125 rfl ?_;refine Gc ?_;refine bN rfl fun b2=>aN ?_;refine bn rfl rfl rfl (fun hg=>(aU rfl).yl) (bn rfl rfl rfl (fun hg=>(dz (az hg rfl) rfl rfl).yl) (aA ?_));refine gn rfl (fun h0=>?_) (fun h0=>?_)
 ·
  simp at h0;refine al ?_;refine eV (.inl rfl) (jb rfl rfl) (fun w hw=>?_);exact⟨by rw[Y6 k n oM],hw.sub (atu _)⟩
 simp at h0;refine aA ?_;refine ag (mK rfl rfl oM oM) (ag (ny rfl rfl oM oM) (ag (uc rfl (jQ _ _ oM)) (ag (kE rfl (atS (gp _ _) (by decide))) (al ?_))));refine ag (AB rfl rfl oM oM) (aA ?_);refine gn rfl (fun h1=>?_) (fun h1=>?_)
 ·
  simp at h1;refine aA ?_;refine ag (w8 rfl rfl (atS (gp _ _) (by decide)) oM) (aA ?_);refine eV (.inl rfl) (jb rfl rfl) (fun w hw=>?_);exact⟨by rw[Y9 k n oM oM oM];rfl,hw.sub (atu _)⟩
 simp at h1;refine aA ?_;refine ag (O8 (q:=15) rfl rfl rfl rfl (atS (gp _ _) (by decide)) (by decide)) (aA ?_);refine eV (.inl rfl) (jb rfl rfl) (fun w hw=>?_);exact⟨by rw[Za k n oM oM oM,←Nat.and_two_pow_sub_one_eq_mod _ 4],hw.sub (atu _)⟩⟩
instance aoW(k:Key)(n:Int):kD Tryz.prog 125 [.agg (bI k), .int .i64 n] (.int .i64 (ji k n)):=adF k n
theorem adG(p:aZ):kD Tryz.prog 57 [.agg (cz p)] (.bool (bo p)):=⟨fun w=>by
 refine cD Tryz.func57 rfl Tryz.ntmps57 rfl ?_;refine Gc ?_;refine bN rfl fun b1=>av ?_;refine eC (rI rfl) (aA ?_);refine bn rfl rfl rfl (fun hg=>(aL (o':=1) rfl rfl).yl) (bn rfl rfl rfl (fun hg=>(bO (az hg rfl)).yl) (bn rfl rfl rfl (fun hg=>(dz (az hg rfl) rfl rfl).yl) (aA ?_)));refine bn rfl rfl rfl (fun hg=>(aL (o':=1) rfl rfl).yl) (bn rfl rfl rfl (fun hg=>(bO (az hg rfl)).yl) (bn rfl rfl rfl (fun hg=>(aL (o':=0) rfl rfl).yl) (bn rfl rfl rfl (fun hg=>(bO (az hg rfl)).yl) (bn rfl rfl rfl (fun hg=>(dz (az hg rfl) (az hg rfl) rfl).yl) (aA ?_)))));refine gn rfl (fun h0=>?_) (fun h0=>?_)
 ·
  refine al ?_;refine eV (.inl rfl) (jb rfl rfl) (fun w hw=>?_);refine⟨?_,hw.sub (atu _)⟩;have:bo p=false:=by unfold bo;simp at h0⊢;omega
  rw[this]
 refine Gc ?_;refine gm oK oK (Gq ?_);refine bE (hK rfl) (aA ?_);refine qI (rI rfl) (Gq ?_);refine bE (hK rfl) (bE (Jo rfl rfl) (aA ?_));refine eV (.inl rfl) (jb rfl rfl) (fun w hw=>?_);refine⟨?_,hw.sub (atu _)⟩;congr 2;unfold bo;simp at h0⊢;obtain⟨⟨h1,h2⟩,h3⟩:=h0;simp[h2,h3,show p.bits=32\/p.bits=128 by omega]⟩
instance aoX(p:aZ):kD Tryz.prog 57 [.agg (cz p)] (.bool (bo p)):=adG p
theorem adH(p:aZ)(k:Key):kD Tryz.prog 77 [.agg (cz p), .agg (bI k)] (.bool (qO p k)):=⟨fun w=>by
 refine cQ Tryz.func77 rfl Tryz.ntmps77 rfl ?_;refine Gc ?_;refine bN rfl fun b2=>bN rfl fun b3=>aA ?_;refine gm oK oK (Gq ?_);refine qI (rI rfl) (aA ?_);refine eK rfl rfl rfl (fun hg=>(gE rfl).yl) (eK rfl rfl rfl (fun hg=>(aL (o':=0) rfl rfl).yl) (eK rfl rfl rfl (fun hg=>(bO (az hg rfl)).yl) (eK rfl rfl rfl (fun hg=>rI (dy (az hg rfl) (dy (az hg rfl) gD))) (eK rfl rfl rfl (fun hg=>(gE rfl).yl) (eK rfl rfl rfl (fun hg=>(Fp (az hg rfl) (az hg rfl)).yl) (aA ?_))))));refine gn rfl (fun h0=>?_) (fun h0=>?_)
 ·
  refine al ?_;refine eV (.inl rfl) (jb rfl rfl) (fun w hw=>?_);refine⟨?_,hw.sub (atu _)⟩;have:qO p k=false:=by rw[←av4,rP];rintro⟨h1,h2,_⟩;simp[h1,h2]at h0
  rw[this]
 refine Gc ?_;refine gm oK oK (Gq ?_);refine bE (hK rfl) (Gq ?_);refine qI (rI rfl) (aN ?_);refine eV (.inl rfl) (jb rfl rfl) (fun w hw=>?_);refine⟨?_,hw.sub (atu _)⟩;congr 2;simp at h0;obtain⟨h1,h2⟩:=h0;obtain⟨h3,h4,h5,h6⟩:=(kj p).1 h1;rw[avn,rP,decide_eq_true_iff,Y1 oM,h6];exact⟨fun h=>⟨h1,h2,h.symm⟩,fun h=>h.2.2.symm⟩⟩
instance aoY(p:aZ)(k:Key):kD Tryz.prog 77 [.agg (cz p), .agg (bI k)] (.bool (qO p k)):=adH p k
theorem adI(p q:aZ):kD Tryz.prog 71 [.agg (cz p), .agg (cz q)] (.bool (nC p q)):=⟨fun w=>by
 refine cQ Tryz.func71 rfl Tryz.ntmps71 rfl ?_;refine Gc ?_;refine bN rfl fun b2=>bN rfl fun b3=>al ?_;refine eC (rI rfl) (aA ?_);refine bn rfl rfl rfl (fun hg=>(gE rfl).yl) (bn rfl rfl rfl (fun hg=>rI (dy (az hg rfl) gD)) (bn rfl rfl rfl (fun hg=>(jM (az hg rfl)).yl) (aA ?_)));refine bn rfl rfl rfl (fun hg=>(aL (o':=0) rfl rfl).yl) (bn rfl rfl rfl (fun hg=>(bO (az hg rfl)).yl) (bn rfl rfl rfl (fun hg=>(aL (o':=0) rfl rfl).yl) (bn rfl rfl rfl (fun hg=>(bO (az hg rfl)).yl) (bn rfl rfl rfl (fun hg=>(dz (az hg rfl) (az hg rfl) rfl).yl) (aA ?_)))));refine bn rfl rfl rfl (fun hg=>(aL (o':=1) rfl rfl).yl) (bn rfl rfl rfl (fun hg=>(bO (az hg rfl)).yl) (bn rfl rfl rfl (fun hg=>(aL (o':=1) rfl rfl).yl) (bn rfl rfl rfl (fun hg=>(bO (az hg rfl)).yl) (bn rfl rfl rfl (fun hg=>(dz (az hg rfl) (az hg rfl) rfl).yl) (aA ?_)))));refine gn rfl (fun h0=>?_) (fun h0=>?_)
 ·
  refine al ?_;refine eV (.inl rfl) (jb rfl rfl) (fun w hw=>?_);refine⟨?_,hw.sub (atu _)⟩;have:nC p q=false:=by unfold nC;simp at h0⊢;intro h1 h2 h3 h4;simp[h1,h2,h3]at h0;omega
  rw[this]
 refine al ?_;refine ag (hK rfl) (eC (rI rfl) (aA ?_));refine eV (.inl rfl) (jb rfl rfl) (fun w hw=>?_);refine⟨?_,hw.sub (atu _)⟩;congr 2;simp at h0;obtain⟨⟨⟨h1,h2⟩,h3⟩,h4⟩:=h0;obtain⟨q1,q2,q3,q4⟩:=(kj q).1 h2;rw[avn,rP,vD];have h5:cm q.key p.bits=q.key:=(AS _ _).2 fun i hi hb=>(AS _ _).1 q4 i hi oM;exact⟨fun h=>⟨h1,h2,h3,h4,h.2.2⟩,fun h=>⟨h1,h5,h.2.2.2.2⟩⟩⟩
instance aoZ(p q:aZ):kD Tryz.prog 71 [.agg (cz p), .agg (cz q)] (.bool (nC p q)):=adI p q
open Go.RowKit
def tB(k:Key):List Int:=(List.range 16).map fun i=>(aY k i:Int)
theorem TM(k:Key)(j:Nat)(x:Int)(h:(tB k)[j]? =some x):j<16/\x=aY k j:=by
 have hl:j<16:=by have:=(ad2.1 h).1;simpa[tB]using this
 refine⟨hl,?_⟩;simp[tB,hl]at h;exact h.symm
theorem adJ{x y:UInt8}{xs ys:List UInt8}:Lib.compareBytes (x::xs) (y::ys)=if x.toNat<y.toNat then -1 else if y.toNat<x.toNat then 1 else Lib.compareBytes xs ys:=by
 simp[Lib.compareBytes,UInt8.lt_iff_toNat_lt]
theorem TN(a b:Key): ∀(n i:Nat),i+n=16->(∀j,j<i->aY a j=aY b j)->
  Lib.compareBytes ((List.range' i n).map fun j=>(aY a j).toUInt8) ((List.range' i n).map fun j=>(aY b j).toUInt8)=rO a b
 |0,i,hi,hs=>by
  have:a=b:=sR fun j hj=>hs j (by omega);subst this;simp[Lib.compareBytes,rO]
 |n+1,i,hi,hs=>by
  have ha:=gp a i;have hb:=gp b i;rw[List.range'_succ,atq,atq,adJ];have ea:(aY a i).toUInt8.toNat=aY a i:=by simp;omega
  have eb:(aY b i).toUInt8.toNat=aY b i:=by simp;omega
  rw[ea,eb]
  by_cases h1:aY a i<aY b i
  ·
   rw[if_pos h1];have:=J6 (by omega) hs h1;unfold rO;rw[if_pos this]
  ·
   rw[if_neg h1]
   by_cases h2:aY b i<aY a i
   ·
    rw[if_pos h2];have:=J6 (by omega) (fun j hj=>(hs j hj).symm) h2;unfold rO;rw[if_neg (by omega),if_pos this]
   ·
    rw[if_neg h2];exact TN a b n (i+1) (by omega) fun j hj=>by
     by_cases e:j=i
     ·
      subst e;omega
     ·
      exact hs j (by omega)
theorem TO(k:Key):(⟨ByteArray.empty.data++(Lib.bytesOf (tB k)).toArray⟩:ByteArray).data.toList=(List.range' 0 16).map fun j=>(aY k j).toUInt8:=by
 simp[Lib.bytesOf,tB,List.range_eq_range']
theorem adK(a b:Key)(p q:Addr)(c c':Nat)(w:World)(hp: ∀j,j<16->w.cell? (p.add j)=some (.int .u8 (aY a j)))(hq: ∀j,j<16->w.cell? (q.add j)=some (.int .u8 (aY b j))):
  Calls Tryz.prog 66 [.slice (some p) 16 c, .slice (some q) 16 c'].toArray w fun e w'=>e= .returned (.int .i64 (rO a b))/\Mem w [] w':=by
 refine rL (args:=[_,_]) Tryz.func66 rfl Tryz.ntmps66 rfl ?_;change Cw _ _ _ _ _ [(0, .slice (some p) 16 c),(1, .slice (some q) 16 c')] [];refine eE ?_;refine fe ?_;refine ag (eI rfl) ?_;refine fc ?_;refine dR ?_;refine eE ?_;refine fe ?_;refine ag (aU rfl) ?_;refine ag (aU rfl) ?_;refine ag (v:= .int .i64 (rO a b)) ?_ ?_
 ·
  intro aa w1 ha hw;have qf: ∀j,j<16->w1.cell? (p.add j)=some (.int .u8 (aY a j)):=fun j hj=>by
   rw[←hp j hj];exact hw.below.cell (block_lt_of_cell (hp j hj))
  have hqb: ∀j,j<16->w1.cell? (q.add j)=some (.int .u8 (aY b j)):=fun j hj=>by
   rw[←hq j hj];exact hw.below.cell (block_lt_of_cell (hq j hj))
  have r1:=Lib.run_loadBytesX (P:=Tryz.prog) w1 (tB a) p .empty (fun j x hx=>by obtain⟨h1,rfl⟩:=TM a j x hx;exact qf j h1);have r2:=Lib.run_loadBytesX (P:=Tryz.prog) w1 (tB b) q .empty (fun j x hx=>by obtain⟨h1,rfl⟩:=TM b j x hx;exact hqb j h1);have l1:(tB a).length=16:=by simp[tB]
  have l2:(tB b).length=16:=by simp[tB]
  rw[l1]at r1;rw[l2]at r2;have e5:=ha.ev (x:= .tmp 5) (v:= .slice (some p) 16 c) rfl;have e6:=ha.ev (x:= .tmp 6) (v:= .slice (some q) 16 c') rfl;have gO:(callFunc 136 #[.slice (some p) 16 c, .slice (some q) 16 c']).run Tryz.prog w1= .ok (.value (.int .i64 (rO a b))) w1:=by
   rw[run_callFunc_extern Tryz.func136 (by kernel_rfl) (by kernel_rfl) (by kernel_rfl) (e:=Extern.BytealgCompare.compare) (by kernel_rfl)];have:(Extern.BytealgCompare.compare #[.slice (some p) 16 c, .slice (some q) 16 c']).run Tryz.prog w1= .ok (.int .i64 (rO a b)) w1:=by
    change Sem.run Tryz.prog (do pure (goInt (Extern.BytealgCompare.cmp (←Extern.Bytes.bytesOf (.slice (some p) 16 c)) (←Extern.Bytes.bytesOf (.slice (some q) 16 c'))))) w1=_;simp only[Extern.Bytes.bytesOf,Sem.run_bind,r1,r2,Sem.run_pure,Result.andThen];rw[Lib.cmp_eq,TO,TO,TN a b 16 0 rfl (fun j h=>by omega)];rfl
   rw[this];rfl
  simp[execOp,resolve,Act.eval,Deferred.ofValue,invoke]at e5 e6⊢;rw[e5,e6,gO]
 refine ag (eI rfl) ?_;refine fc ?_;refine dR ?_;refine sN ?_;refine eV (.inl rfl) (jb rfl rfl) (fun w hw=>?_);exact⟨rfl,hw.sub (atu _)⟩
theorem TP{w0 w:World}{L:List aj}{b:Nat}{p:aZ}{T:TypeId}{i:Nat}(hw:Mem w0 L w)[hh:Has L b (cz p) T i](j:Nat)(hj:j<16):w.cell? ((⟨b,2,none⟩:Addr).add j)=some (.int .u8 (aY p.key j)):=by
 rw[Addr.ie,hw.cell hh.h,rN,jQ _ j hj]
theorem Me{p q:aZ}(h1:bo p=true)(h2:bo q=true):cH p q=(if p.bits≠q.bits then decide (p.bits=32)else if p.key≠q.key then decide (p.key.toNat<q.key.toNat)else decide (p.len<q.len)):=by
 unfold cH;rw[h1,h2];rfl
theorem adL(p q:aZ):kD Tryz.prog 58 [.agg (cz p), .agg (cz q)] (.bool (cH p q)):=⟨fun w=>by
 refine cQ Tryz.func58 rfl Tryz.ntmps58 rfl ?_;refine Gc ?_;refine bN rfl fun b2=>bN rfl fun b3=>al ?_;refine eC (rI rfl) (aA ?_);refine bn rfl rfl rfl (fun hg=>(gE rfl).yl) (bn rfl rfl rfl (fun hg=>rI (dy (az hg rfl) gD)) (bn rfl rfl rfl (fun hg=>(jM (az hg rfl)).yl) (aA ?_)));refine gn rfl (fun h0=>?_) (fun h0=>?_)
 ·
  simp at h0;refine al ?_;refine eV (.inl rfl) (jb rfl rfl) (fun w hw=>?_);refine⟨?_,hw.sub (atu _)⟩;have:cH p q=false:=by unfold cH;cases h1:bo p<;>cases h2:bo q<;>simp_all
  rw[this]
 simp at h0;obtain⟨m1,m2⟩:=h0;refine dv ?_;refine gn rfl (fun h1=>?_) (fun h1=>?_)
 ·
  simp at h1;refine ba ?_;refine eV (.inl rfl) (jb rfl rfl) (fun w hw=>?_);exact⟨by rw[Me m1 m2,if_pos h1],hw.sub (atu _)⟩
 simp at h1;refine Gc ?_;refine gm oK oK (Gq ?_);refine bE (yP rfl) (Gq ?_);refine bE (yP rfl) (qI (AA rfl (fun w hw=>adK p.key q.key _ _ _ _ w (TP hw) (TP hw))) (aN ?_));refine gn rfl (fun h2=>?_) (fun h2=>?_)
 ·
  simp at h2;refine aN ?_;refine eV (.inl rfl) (jb rfl rfl) (fun w hw=>?_);exact⟨by rw[Me m1 m2,if_neg (by simpa using h1),if_pos (fun e=>h2 ((PS _ _).2 e)),decide_eq_decide.2 (Zd _ _)],hw.sub (atu _)⟩
 simp at h2;refine fk ?_;refine eV (.inl rfl) (jb rfl rfl) (fun w hw=>?_);exact⟨by rw[Me m1 m2,if_neg (by simpa using h1),if_neg (by simpa using(PS _ _).1 h2)],hw.sub (atu _)⟩⟩
instance ao0(p q:aZ):kD Tryz.prog 58 [.agg (cz p), .agg (cz q)] (.bool (cH p q)):=adL p q
instance ao1:fH Tryz.prog 22 34 19 40:=⟨Tryz.underlying22,by kernel_rfl⟩
instance ao2:fH Tryz.prog 45 47 20 48:=⟨Tryz.underlying45,by kernel_rfl⟩
instance ao3:eJ Tryz.prog 53 (.slice none 0 0):=⟨by kernel_rfl⟩
instance ao4:fH Tryz.prog 53 5 1 1:=⟨Tryz.underlying53,by kernel_rfl⟩
instance ao5:fH Tryz.prog 56 180 4 48:=⟨Tryz.underlying56,by kernel_rfl⟩
instance ao6:fH Tryz.prog 57 97 4 16:=⟨Tryz.underlying57,by kernel_rfl⟩
instance ao7:fH Tryz.prog 60 3 1 8:=⟨Tryz.underlying60,by kernel_rfl⟩
instance ao8:fH Tryz.prog 122 225 48 384:=⟨Tryz.underlying122,by kernel_rfl⟩
instance ao9:fH Tryz.prog 178 53 1 24:=⟨Tryz.underlying178,by kernel_rfl⟩
instance apa:fH Tryz.prog 191 269 2 32:=⟨Tryz.underlying191,by kernel_rfl⟩
instance apb:fH Tryz.prog 366 60 1 24:=⟨Tryz.underlying366,by kernel_rfl⟩
instance apc:fH Tryz.prog 396 178 1 24:=⟨Tryz.underlying396,by kernel_rfl⟩
instance apd:fH Tryz.prog 399 402 4 32:=⟨Tryz.underlying399,by kernel_rfl⟩
instance ape:fH Tryz.prog 443 433 1 8:=⟨Tryz.underlying443,by kernel_rfl⟩
instance:bu au 19:=⟨lF,fun r=>by
 have h:(cz r.p).all (·.oneCell')=true:=(inferInstance:gk (cz r.p) 18).one;rw[au,Array.all_append,h];simp[Value.oneCell']⟩
instance:Deep Rt:=Deep.flat au 19
instance:gH Rt au 19:=⟨rfl,fun _=>rfl⟩
instance (r:Rt):gk (au r) 19:=⟨lF r,bu.one r⟩
instance (r:Rt):nT (au r) 0 18 (cz r.p):=⟨qP _,fun j hj=>by rw[atF];exact p6 r j hj⟩
instance (r:Rt):cg (au r) 18 (.int .u16 r.bV.toNat):=⟨AT r⟩
instance (r:Rt):cg (au r) 0 (.int .i64 r.p.bits):=⟨(p6 r 0 (by decide)).trans (za r.p)⟩
instance (r:Rt):cg (au r) 1 (.int .i64 r.p.len):=⟨(p6 r 1 (by decide)).trans (zb r.p)⟩
instance (r:Rt):nT (au r) 2 16 (bI r.p.key):=⟨gq _,fun j hj=>(p6 r (2+j) (by omega)).trans (rN r.p j)⟩
theorem adM(d:Nat):uU Tryz.prog (d+1) 27 false [0]:=⟨⟨_,Tryz.underlying27,rfl⟩,by kernel_rfl,fun _=>rfl,L9 Tryz.underlying27⟩
theorem adN:Tryz.prog.stoodInHeld 34=false:=by kernel_rfl
theorem adO(d:Nat):uU Tryz.prog (d+1+1+1+1) 34 true (([0]++([0]++((List.replicate 16 [0]).flatten++[])))++([0]++[])):=⟨⟨_,Tryz.underlying34,rfl⟩,by kernel_rfl,(fun h=>by cases h),
 TI Tryz.underlying34 adN ⟨by decide,rfl,_,_,_,rfl,TL _,by decide,rfl,_,_,_,rfl,adM _,rfl⟩⟩
theorem adP:Tryz.prog.eqGuardType Tryz.prog.depth 34=false:=by kernel_rfl
instance (a b:Rt):Ay Tryz.prog 34 (.agg (au a)) (.agg (au b)) (decide (a=b)):=
 (adO 9996).eq.val rfl adP (lF a) (lF b) (fun i k hk=>by
  have h0:k=0:=by
   have:k∈(([0]++([0]++((List.replicate 16 [0]).flatten++[])))++([0]++[])):=alM hk;simpa using this
  subst h0;have hi:i<19:=(ad2.1 hk).1
  match i,hi with
  |0,_=>exact⟨_,_,(inferInstance:cg (au a) 0 _).h,(inferInstance:cg (au b) 0 _).h,rfl⟩
  |1,_=>exact⟨_,_,(inferInstance:cg (au a) 1 _).h,(inferInstance:cg (au b) 1 _).h,rfl⟩
  |j+2,hi=>
   rcases as3 j 16 with h|h
   ·
    rw[av2 j 2];exact⟨_,_,(p6 a _ (by omega)).trans ((rN a.p j).trans (jQ _ j h)),(p6 b _ (by omega)).trans ((rN b.p j).trans (jQ _ j h)),rfl⟩
   obtain rfl:j=16:=by omega
   exact⟨_,_,AT a,AT b,rfl⟩) (by rw[decide_eq_true_iff];exact⟨Zi,fun h=>by rw[h]⟩)
instance:pY Tryz.prog 34 [] (.agg (au cI)):=⟨fun w=>by unfold au cz cI;rw[xX];kernel_rfl⟩
instance (p:aZ)(h:UInt16):pY Tryz.prog 34 [(0, .agg (cz p)),(1, .int .u16 h.toNat)] (.agg (au ⟨p,h⟩)):=⟨fun w=>by kernel_rfl⟩
instance:eJ Tryz.prog 34 (.agg (au cI)):=⟨by unfold au cz cI;rw[xX];kernel_rfl⟩
end Go.Proofs.YtkggjjnhnjjokaaGreatDoor
namespace Go.Kb
open Go.ax
instance:Plain Rt:=⟨fun _=>rfl⟩
instance:gu Rt:=gu.flat fun _ _=>trivial
structure dt where
 ar:cn
 table:Sl Rt
def dx(x:dt):Array Value:= #[.int .i64 x.ar.ae.pages, .int .i64 x.ar.ae.size,x.ar.ae.blocks.sv.val, .int .i64 x.ar.ae.ops, .bool x.ar.ae.off,x.ar.ae.aV.sv.val,x.ar.at_.sv.val, .int .u64 x.ar.gen.toNat, .int .i64 x.ar.last,x.table.sv.val]
instance:bu dx 10:=⟨fun _=>rfl,fun x=>by
 simp only[dx,auU,au2,avi,Sv.one,vS,vT,auN]⟩
instance (x:dt):gk (dx x) 10:=⟨rfl,bu.one x⟩
instance (x:dt):cg (dx x) 1 (.int .i64 x.ar.ae.size):=⟨rfl⟩
instance (x:dt):cg (dx x) 6 (x.ar.at_.sv.val):=⟨rfl⟩
instance (x:dt):cg (dx x) 7 (.int .u64 x.ar.gen.toNat):=⟨rfl⟩
instance (x:dt):cg (dx x) 8 (.int .i64 x.ar.last):=⟨rfl⟩
instance (x:dt):cg (dx x) 9 (x.table.sv.val):=⟨rfl⟩
instance (x:dt):nT (dx x) 0 9 (cr x.ar):=⟨rfl,fun j hj=>by
 match j,hj with
 |0,_=>rfl
 |1,_=>rfl
 |2,_=>rfl
 |3,_=>rfl
 |4,_=>rfl
 |5,_=>rfl
 |6,_=>rfl
 |7,_=>rfl
 |8,_=>rfl⟩
instance (x:dt):nT (dx x) 0 6 (aS x.ar.ae):=⟨rfl,fun j hj=>by
 match j,hj with
 |0,_=>rfl
 |1,_=>rfl
 |2,_=>rfl
 |3,_=>rfl
 |4,_=>rfl
 |5,_=>rfl⟩
instance:Deep dt where
 c:=10
 cells:=dx
 size:=bu.size
 one:=bu.one
 cM h x:=Deep.cM h x.ar/\Deep.cM h x.table
 ck x:= .two (Deep.ck x.ar) (Deep.ck x.table)
 ki h x hs:=⟨Deep.ki h x.ar hs.1,Deep.ki h x.table hs.2.1⟩
 mono w w' x hg hb:=⟨Deep.mono w w' x.ar hg.1 hb,Deep.mono w w' x.table hg.2 hb⟩
instance:gu dt where
 reach x k:=gu.reach x.ar k\/gu.reach x.table k
 congr h h' x e hg:=⟨gu.congr h h' x.ar (fun k hk=>e k (.inl hk)) hg.1,gu.congr h h' x.table (fun k hk=>e k (.inr hk)) hg.2⟩
variable {w0:World}{L:List aj}
instance{x:dt}[q:aT w0 L x]:aT w0 L x.ar:=⟨fun w hw=>(q.h w hw).1⟩
instance{x:dt}[q:aT w0 L x]:aT w0 L x.table:=⟨fun w hw=>(q.h w hw).2⟩
instance{ar:cn}{table:Sl Rt}[q0:aT w0 L ar][q1:aT w0 L table]:aT w0 L (dt.mk ar table):=⟨fun w hw=>⟨q0.h w hw,q1.h w hw⟩⟩
def oB:dt:=⟨mr,⟨Sv.none,[]⟩⟩
structure FV where
 ar:VV
 table:List Rt
 deriving DecidableEq
def ca(f:dt):FV:=⟨vv f.ar,f.table.xs⟩
def sj:FV:=⟨lN,[]⟩
def zO(b p s:Int):Int:=min (uO b p/2) (kI s)
def zP(b p s:Int):Int:=jI (zO b p s) (dU s)
def eG(c:CV):Int:=zO c.blocks.length c.pages c.size
def eH(c:CV):Int:=zP c.blocks.length c.pages c.size
def eQ(c:CV)(y:Int):List UInt8:=if y -1<0 then[]else jm c y
def ct(v:VV):List (List UInt8):=v.at_.map (eQ v.ae)
def dI(c:CV):FV×Int:=
 if eH c=0 then(sj,1)
 else if(bG c).2≠0 then(sj,(bG c).2)
 else if((bG c).1.at_.length:Int)≠eG c then(sj,2)
 else if lu (ct (bG c).1)≠0 then(sj,2)
 else(⟨(bG c).1,jW (ct (bG c).1)⟩,0)
def lC(c:CV):List (List UInt8):=if(dI c).2=0 then ct (bG c).1 else[]
theorem TQ{c:CV}(h:eH c=0):dI c=(sj,1)/\lC c=[]:=by
 have e:dI c=(sj,1):=by rw[dI,if_pos h]
 exact⟨e,by rw[lC,e];rfl⟩
theorem TR{c:CV}(h: ¬eH c=0)(h1:(bG c).2≠0):dI c=(sj,(bG c).2)/\lC c=[]:=by
 have e:dI c=(sj,(bG c).2):=by rw[dI,if_neg h,if_pos h1]
 exact⟨e,by rw[lC,e,if_neg h1]⟩
theorem TS{c:CV}(h: ¬eH c=0)(h1:(bG c).2=0)(h2:((bG c).1.at_.length:Int)≠eG c):dI c=(sj,2)/\lC c=[]:=by
 have e:dI c=(sj,2):=by rw[dI,if_neg h,if_neg (fun g=>g h1),if_pos h2]
 exact⟨e,by rw[lC,e];rfl⟩
theorem TT{c:CV}(h: ¬eH c=0)(h1:(bG c).2=0)(h2:((bG c).1.at_.length:Int)=eG c)(h3:lu (ct (bG c).1)≠0):dI c=(sj,2)/\lC c=[]:=by
 have e:dI c=(sj,2):=by rw[dI,if_neg h,if_neg (fun g=>g h1),if_neg (fun g=>g h2),if_pos h3]
 exact⟨e,by rw[lC,e];rfl⟩
theorem HB{c:CV}(h: ¬eH c=0)(h1:(bG c).2=0)(h2:((bG c).1.at_.length:Int)=eG c)(h3:lu (ct (bG c).1)=0):dI c=(⟨(bG c).1,jW (ct (bG c).1)⟩,0)/\lC c=ct (bG c).1:=by
 have e:dI c=(⟨(bG c).1,jW (ct (bG c).1)⟩,0):=by rw[dI,if_neg h,if_neg (fun g=>g h1),if_neg (fun g=>g h2),if_neg (fun g=>g h3)]
 exact⟨e,by rw[lC,e,if_pos rfl]⟩
theorem HC{c:CV}(h:(dI c).2=0): ¬eH c=0/\(bG c).2=0/\((bG c).1.at_.length:Int)=eG c/\lu (ct (bG c).1)=0:=by
 by_cases h0:eH c=0
 ·
  rw[(TQ h0).1]at h;cases h
 by_cases h1:(bG c).2=0
 ·
  by_cases h2:((bG c).1.at_.length:Int)=eG c
  ·
   by_cases h3:lu (ct (bG c).1)=0
   ·
    exact⟨h0,h1,h2,h3⟩
   rw[(TT h0 h1 h2 h3).1]at h;cases h
  rw[(TS h0 h1 h2).1]at h;cases h
 rw[(TR h0 h1).1]at h;exact absurd h h1
def jr(f:FV):Bool:=decide ((dI {f.ar.ae with off:=false}).2=0)&&decide (f.ar.gen=(dI {f.ar.ae with off:=false}).1.ar.gen)&&decide (f.ar.last=(dI {f.ar.ae with off:=false}).1.ar.last)&&decide (f.ar.at_=(dI {f.ar.ae with off:=false}).1.ar.at_)&&decide (f.table=(dI {f.ar.ae with off:=false}).1.table)
theorem Mf{f:FV}:jr f=true↔(dI {f.ar.ae with off:=false}).2=0/\f.ar.gen=(dI {f.ar.ae with off:=false}).1.ar.gen/\f.ar.last=(dI {f.ar.ae with off:=false}).1.ar.last/\f.ar.at_=(dI {f.ar.ae with off:=false}).1.ar.at_/\f.table=(dI {f.ar.ae with off:=false}).1.table:=by
 simp only[jr,anc,decide_eq_true_eq,and_assoc]
theorem adQ{f:FV}:jr f=(decide ((dI {f.ar.ae with off:=false}).2=0)&&mw f.ar&&decide ((dI {f.ar.ae with off:=false}).1.table=f.table)):=by
 rw[avn,Mf];simp only[mw,anc,decide_eq_true_eq];constructor
 ·
  rintro⟨h1,h2,h3,h4,h5⟩;obtain⟨g0,g1,g2,g3⟩:=HC h1;rw[(HB g0 g1 g2 g3).1]at h2 h3 h4;exact⟨⟨h1,⟨⟨g1,h2.symm⟩,h3.symm⟩,h4.symm⟩,h5.symm⟩
 rintro⟨⟨h1,⟨⟨g4,h2⟩,h3⟩,h4⟩,h5⟩;obtain⟨g0,g1,g2,g3⟩:=HC h1;rw[(HB g0 g1 g2 g3).1]at h5⊢;exact⟨rfl,h2.symm,h3.symm,h4.symm,h5.symm⟩
theorem adR{bs:List (List UInt8)}(h:lu bs=0):br (jW bs)=true:=by
 unfold lu jW at*
 cases hu:ia bs with
 |none=>rw[hu]at h;cases h
 |some t=>
  rw[hu]at h;simp only at h⊢
  by_cases ht:br t=true
  ·
   rw[if_pos ht];exact ht
  rw[if_neg ht]at h;cases h
def cK(f:FV)(l:List Ch):FV×Int:=
 if jr f=false then(f,1)
 else if dr f.table l≠0 then(f,dr f.table l)
 else if kx (cj f.table l) (eG f.ar.ae) (dU f.ar.ae.size)≠0 then(f,kx (cj f.table l) (eG f.ar.ae) (dU f.ar.ae.size))
 else if ff (lC {f.ar.ae with off:=false}) (lq (cj f.table l) (eG f.ar.ae) (dU f.ar.ae.size))=[]then(⟨f.ar,cj f.table l⟩,0)
 else(⟨(gh f.ar (ff (lC {f.ar.ae with off:=false}) (lq (cj f.table l) (eG f.ar.ae) (dU f.ar.ae.size)))).1,if(gh f.ar (ff (lC {f.ar.ae with off:=false}) (lq (cj f.table l) (eG f.ar.ae) (dU f.ar.ae.size)))).2≠0 then f.table else cj f.table l⟩,(gh f.ar (ff (lC {f.ar.ae with off:=false}) (lq (cj f.table l) (eG f.ar.ae) (dU f.ar.ae.size)))).2)
def sk(c:CV):FV×Int:=if eH c=0 then(⟨⟨c,[],0,0⟩,[]⟩,1)else(⟨(pH c (eG c)).1,[]⟩,(pH c (eG c)).2)
def zQ(f:FV)(k:Key)(bits:Int):Rt:=if jr f=true then kN f.table k bits else cI
def zR(f:FV)(k:Key)(bits:Int):Int:=if jr f=true then ky f.table k bits else 1
theorem DR{w0 w:World}{L:List aj}{a:Sl Rt}(h:Mem w0 (own au 19 a.sv a.xs::L) w):Mem w0 (fz a::L) w:=GQ (fun _ _ h=>h) (fun _ _=>trivial) h
theorem HD{w0 w:World}{L:List aj}{f:dt}(h:Mem w0 (fz f.ar.ae::fz f.ar.at_::fz f.table::L) w):Mem w0 (fz f::L) w:=by
 refine Mem.freeze (es:=[fz f.ar.ae,fz f.ar.at_,fz f.table]) f ⟨⟨h.sat (fz f.ar.ae) (by simp),h.sat (fz f.ar.at_) (by simp)⟩,h.sat (fz f.table) (by simp)⟩ (fun k hk=>?_) h;rcases hk with(hk|hk)|hk
 ·
  exact⟨fz f.ar.ae,by simp,hk⟩
 ·
  exact⟨fz f.ar.at_,by simp,hk⟩
 exact⟨fz f.table,by simp,hk⟩
theorem TU{w0 w:World}{L:List aj}{f:dt}(h:Mem w0 (fz f.ar.ae::own bx 1 f.ar.at_.sv f.ar.at_.xs::own au 19 f.table.sv f.table.xs::L) w):Mem w0 (fz f::L) w:=by
 have h1:=zt (a:=f.ar.at_) (h.perm (List.Perm.swap _ _ _));have h2:=DR (a:=f.table) (h1.perm ((List.Perm.cons _ (List.Perm.swap _ _ _)).trans (List.Perm.swap _ _ _)));exact HD (h2.perm ((List.Perm.cons _ (List.Perm.swap _ _ _)).trans ((List.Perm.swap _ _ _).trans (List.Perm.cons _ (List.Perm.swap _ _ _)))))
theorem HE{w0 w:World}{L:List aj}(h:Mem w0 L w):Mem w0 (fz oB::L) w:=
 Mem.freeze (es:=[]) oB ⟨⟨⟨xp,xp⟩,xp⟩,xp⟩ (fun k hk=>by
  rcases hk with(((⟨bM,_⟩|⟨x,hx,_⟩)|⟨bM,_⟩|⟨x,hx,_⟩)|⟨bM,_⟩|⟨x,hx,_⟩)|⟨bM,_⟩|⟨x,hx,_⟩
  all_goals first|exact absurd rfl bM|cases hx) h
theorem BE{w0 w:World}{L:List aj}:Mem w0 L w->Mem w0 (fz (⟨Sv.none,[]⟩:Sl (Sl UInt8))::L) w:=
 Mem.freeze (es:=[]) _ xp (fun k hk=>by
  rcases hk with⟨bM,_⟩|⟨x,hx,_⟩
  ·
   exact absurd rfl bM
  cases hx)
theorem TV(s:Int):0<=kI s/\kI s<=64:=by
 rw[kI,dU];split
 ·
  rename_i h;have:=te.1 h;omega
 omega
theorem Mg(c:CV):eG c<=64:=by
 have:=TV c.size;rw[eG,zO];omega
theorem adS(b p:Int):0<=uO b p/\uO b p<=448:=by
 rw[uO];split
 ·
  omega
 rename_i h;have h1:0<=b -4/\b -4<=28:=by omega
 have h2:1<=p/\p<=16:=by omega
 exact⟨Int.mul_nonneg h1.1 (by omega),Int.le_trans (av3 h1.2 h2.2 (by omega) (by omega)) (by decide)⟩
theorem TW{c:CV}(h:(bG c).2=0):(bG c).1.ae=c:=by
 obtain⟨_,_,e⟩:=Lf h;rw[e]
theorem adT{c:CV}(h:(bG c).2=0):c.off=false:=by
 cases ho:c.off with
 |false=>rfl
 |true=>rw[bG,if_neg (by rw[Le h];simp),if_pos ho]at h;cases h
theorem adU{c:CV}(h:(bG c).2=0):mw (bG c).1=true:=by
 have e:{(bG c).1.ae with off:=false}=c:=by rw[TW h,←adT h]
 simp only[mw,e,h,decide_true,auN]
theorem adV(c:CV)(n:Int):(jm c n).length<=65536:=by
 rw[jm];split
 ·
  exact La _
 simp
theorem BF(v:VV):(ct v).length=v.at_.length:=by rw[ct,atL]
theorem adW(c:CV)(n:Int):(eQ c n).length<=65536:=by
 rw[eQ];split
 ·
  simp
 exact adV c n
theorem adX(c:CV):(lC c).length<=64:=by
 rw[lC];split
 ·
  rename_i h;obtain⟨g0,g1,g2,g3⟩:=HC h;have:=Mg c;rw[BF];omega
 simp
def eR(f:FV):List (List UInt8):=lC {f.ar.ae with off:=false}
def xY(f:FV)(l:List Ch):Int:=kx (cj f.table l) (eG f.ar.ae) (dU f.ar.ae.size)
def dF(f:FV)(l:List Ch):List (List UInt8):=lq (cj f.table l) (eG f.ar.ae) (dU f.ar.ae.size)
theorem adY{f:FV}{l:List Ch}(h0:jr f=false):cK f l=(f,1):=by rw[cK,if_pos h0]
theorem HF(f:FV)(l:List Ch):cK f l=(if jr f=false then(f,1)
 else if dr f.table l≠0 then(f,dr f.table l)
 else if xY f l≠0 then(f,xY f l)
 else if ff (eR f) (dF f l)=[]then(⟨f.ar,cj f.table l⟩,0)
 else(⟨(gh f.ar (ff (eR f) (dF f l))).1,if(gh f.ar (ff (eR f) (dF f l))).2≠0 then f.table else cj f.table l⟩,(gh f.ar (ff (eR f) (dF f l))).2)):=rfl
theorem TX{f:FV}{l:List Ch}(h0:jr f=true)(h1:dr f.table l≠0):cK f l=(f,dr f.table l):=by
 rw[HF,if_neg (by rw[h0];simp),if_pos h1]
theorem TY{f:FV}{l:List Ch}(h0:jr f=true)(h1:dr f.table l=0)(h2:xY f l≠0):cK f l=(f,xY f l):=by
 rw[HF,if_neg (by rw[h0];simp),if_neg (fun h=>h h1),if_pos h2]
theorem TZ{f:FV}{l:List Ch}(h0:jr f=true)(h1:dr f.table l=0)(h2:xY f l=0)(h3:ff (eR f) (dF f l)=[]):cK f l=(⟨f.ar,cj f.table l⟩,0):=by
 rw[HF,if_neg (by rw[h0];simp),if_neg (fun h=>h h1),if_neg (fun h=>h h2),if_pos h3]
theorem HG{f:FV}{l:List Ch}(h0:jr f=true)(h1:dr f.table l=0)(h2:xY f l=0)(h3: ¬ff (eR f) (dF f l)=[]):cK f l=(⟨(gh f.ar (ff (eR f) (dF f l))).1,if(gh f.ar (ff (eR f) (dF f l))).2≠0 then f.table else cj f.table l⟩,(gh f.ar (ff (eR f) (dF f l))).2):=by
 rw[HF,if_neg (by rw[h0];simp),if_neg (fun h=>h h1),if_neg (fun h=>h h2),if_neg h3]
def T0(f:FV):Bool:=bb f.ar.ae&&decide (f.ar.at_.length<=1000000)&&decide (f.table.length<=1000000)
end Go.Kb
namespace Go.ax
open Go.RowKit
theorem DS{P:Program}{fn:Func}{N:cc}{env:Env}{w0:World}{L:List aj}(hf:fn.results= #[]): ∀a w,cO N env a->Mem w0 L w->(results fn a.tmps).run P w= .ok (.tuple #[]) w:=fun a w _ _=>by
 simp[results,hf]
section
variable {P:Program} {w0:World} {env:Env}
theorem HH{N:cc}{L:List aj}{d:Option Tmp}{ty:TypeId}{ps:String}{af:Array Edge}{gd:Option (Nat×Bool)}{t:TypeId}{x:Operand}{p:Addr}{v:Value}[ht:fW P t](hx:ev env x=some (.pointer (some p)))(hc:w0.cell? p=some v):Ry P N w0 env L ⟨d, .load t x,ty,ps,af,gd⟩ v:=
 Az ht hx fun w hw=>(hw.below.cell (by
  unfold World.cell? at hc
  cases ho:w0.heap[p.block]?with
  |none=>simp[ho]at hc
  |some o=>exact(auC.1 ho).1)).trans hc
end
section
variable {P:Program} {N:cc} {w0:World} {env:Env} {L:List aj} {l:List Oper} {Q:Exit->Act->World->Prop} {rest:List Oper} {d:Option Tmp} {ty:TypeId} {ps:String} {af:Array Edge} {K:Value->List aj->Prop}
instance cg.one{v:Value}:cg #[v] 0 v:=⟨rfl⟩
theorem T1{t:TypeId}{x:Operand}{v:Value}(hc:v.cells= #[v])(hx:ev env x=some v)(hk: ∀b,Sq P N w0 l Q rest (cB env d (.pointer (some ⟨b,0,none⟩))) (aq b #[v] t::L))(hd:du N d=true:=by rfl):
  Sq P N w0 l Q (⟨d, .box t x,ty,ps,af,none⟩::rest) env L:=Jt hx (by rw[hc];exact hk) hd
theorem T2{t:TypeId}{z:Value}[hz:eJ P t z](hc:z.cells= #[z])(hk: ∀b,Sq P N w0 l Q rest (cB env d (.pointer (some ⟨b,0,none⟩))) (aq b #[z] t::L))(hd:du N d=true:=by rfl):
  Sq P N w0 l Q (⟨d, .alloc t,ty,ps,af,none⟩::rest) env L:=Pb (z:=z) (by rw[hc];exact hk) hd
theorem Mh{t:TypeId}{x y:Operand}{i b:Nat}{u:Value}{T:TypeId}{v:Value}(hv:v.oneCell'=true)(hx:ev env x=some (.pointer (some ⟨b,0,none⟩)))(hy:ev env y=some v)[ht:fW P t][hh:Has L b #[u] T i]{L':List aj}[hu:fF L i (aq b #[v] T) L'](hk:Sq P N w0 l Q rest env L'):
  Sq P N w0 l Q (⟨none, .store t x y,ty,ps,af,none⟩::rest) env L:=eU (cs':= #[v]) hx hy (by show 0<1;decide) hv rfl hk
end
theorem adZ{P:Program}{N:cc}{w0:World}{env:Env}{L:List aj}{l:List Oper}{Q:Exit->Act->World->Prop}{rest:List Oper}{ty:TypeId}{ps:String}{af:Array Edge}{t:TypeId}{x y:Operand}{i k p:Nat}{s:Sv}{xs:List UInt8}{a v:UInt8}[ht:fW P t](hx:ev env x=some (.pointer (some ⟨s.b,p,none⟩)))(hy:ev env y=some (.int .u8 v.toNat))[q:fI L s aQ 1 xs i](ha:xs[k]? =some a)(fG:p=s.o+k*1){L':List aj}[hu:fF L i (own aQ 1 s (xs.set k v)) L'](hk:Sq P N w0 l Q rest env L'):
  Sq P N w0 l Q (⟨none, .store t x y,ty,ps,af,none⟩::rest) env L:=
 kW (j:=0) (n:=1) (a':=v) ht.size hx hy (q:=q) (by omega) ha (by simp[Value.cells,Value.oneCell']) rfl (by omega) (by rfl) hk
def jt(D l:Nat)(r:Loop):aj:=⟨fun k=>k=D\/k=l,fun h=>h D=some (.deferred (some []))/\h l=some (.loop r),fun h h' e s=>by
 rw[e D (.inl rfl),e l (.inr rfl)];exact s⟩
def BG(D:Nat):aj:=⟨fun k=>k=D,fun h=>h D=some (.deferred (some [])),fun _ _ e s=>by rw[e D rfl];exact s⟩
variable {w0:World}{L:List aj}
theorem Mem.putObj{w:World}{e e':aj}{l:Nat}{o:Obj}(h:Mem w0 (e::L) w)(vl: ∀k,e'.fp k->e.fp k)(hl:e.fp l)
  (Jb:e'.sat fun k=>(w.putObj l o).heap[k]?):Mem w0 (e'::L) (w.putObj l o):=
 h.change (i:=0) rfl vl (fun k hk=>World.putObj_heap_other (fun zg=>hk (zg▸hl))) World.putObj_size ⟨rfl,rfl,rfl⟩ Jb
theorem jt.get{w:World}{D l:Nat}{r:Loop}(h:Mem w0 (jt D l r::L) w):w.heap[D]? =some (.deferred (some []))/\w.heap[l]? =some (.loop r):=h.sat (jt D l r) (by simp)
theorem jt.ne{w:World}{D l:Nat}{r:Loop}(h:Mem w0 (jt D l r::L) w):D≠l:=fun e=>by
 have:=jt.get h;rw[e,this.2]at this;cases this.1
theorem Mem.Mi{w:World}{D l:Nat}{r:Loop}(r':Loop)(h:Mem w0 (jt D l r::L) w):Mem w0 (jt D l r'::L) (w.putObj l (.loop r')):=by
 have h1:=jt.get h;refine h.putObj (fun k hk=>hk) (.inr rfl) ⟨(World.putObj_heap_other (jt.ne h)).trans h1.1,World.putObj_heap_same (auC.1 h1.2).1⟩
theorem Mem.T3{w:World}{D l:Nat}{r:Loop}(o:Obj)(h:Mem w0 (jt D l r::L) w):Mem w0 (BG D::L) (w.putObj l o):=by
 have h1:=jt.get h;refine h.putObj (fun k hk=> .inl hk) (.inr rfl) ((World.putObj_heap_other (jt.ne h)).trans h1.1)
theorem Mem.ad0{w:World}(r:Loop)(h:Mem w0 L w):Mem w0 (jt w.heap.size (w.heap.size+1) r::L) ((w.alloc (.deferred (some []))).alloc (.loop r)):=by
 refine h.call (E:=[jt w.heap.size (w.heap.size+1) r]) ⟨((Below.refl _ w).alloc (as4 _) _).alloc (by simp) _,fun e he=>?_,fun e he k hk=>?_,by simp⟩
 ·
  obtain rfl:e=jt w.heap.size (w.heap.size+1) r:=by simpa using he
  refine⟨(Below.heap_alloc _ _ _ (by simp)).trans (World.alloc_heap_new w _),?_⟩;have:=World.alloc_heap_new (w.alloc (.deferred (some []))) (.loop r);rwa [World.size_alloc]at this
 obtain rfl:e=jt w.heap.size (w.heap.size+1) r:=by simpa using he
 rw[World.size_alloc,World.size_alloc];rcases hk with rfl|rfl<;>omega
def Iter(P:Program)(gf:FuncId)(lb:Array Value)(ad1:Nat->Array Value)(n:Nat)(HI:World->Prop):Prop:=
 ∀(l:Nat) (J Jx:Nat->World->Prop) (W:World),(∀k A B,J k A->Below A.heap.size A B->J k B)->(∀k A B,Jx k A->Below A.heap.size A B->Jx k B)->(∀k A,J k A->HI A)->
  (∀k A,k<n->J k A->YieldAt (iY none) 0 P l (ad1 k) A fun e B=>(e= .returned (.bool true)/\J (k+1) B)\/(e= .returned (.bool false)/\Jx (k+1) B))->J 0 W->
  Calls P gf (#[.func (.yield l) #[] #[]]++lb) W fun e B=>(∃v,e= .returned v)/\(J n B\/ ∃k,Jx k B)
section
variable {P:Program} {N:cc} {w0:World} {env:Env} {L:List aj} {Q:Exit->Act->World->Prop}
def BH{X Y:Type}(w0:World)(r:aj)(LI:X->List aj)(inv:X->Prop)(LJ:Y->List aj)(jn:Y->Prop):Exit->Act->World->Prop
 | .normal,_,w=> ∃x,inv x/\Mem w0 (r::LI x) w
 | .ret,_,w=> ∃y,jn y/\Mem w0 (r::LJ y) w
 |_,_,_=>False
instance jA.round{X Y:Type}{r:aj}{LI:X->List aj}{inv:X->Prop}{LJ:Y->List aj}{jn:Y->Prop}:jA (BH w0 r LI inv LJ jn):=⟨fun _ _ h=>h⟩
def HJ:Exit->Act->World->Prop:=fun _ _ _=>False
instance jA.HJ:jA HJ:=⟨fun _ _ h=>h⟩
def T4(ps:List Tmp)(vs:List Value)(env:Env):Env:=(ps.zip vs).foldl (fun e p=>(p.1,p.2)::e) env
theorem T5{ro:Option Nat}{ds:List Deferred}{n:Nat}: ∀(l:List (Tmp×Value)) (t:Array Value) (env:Env),(∀d v,look env d=some v->t[d]? =some v)->t.size=n->(∀p∈l,p.1<n)->
  (∀d v,look (l.foldl (fun e p=>(p.1,p.2)::e) env) d=some v->(l.foldl (fun t p=>t.setIfInBounds p.1 p.2) t)[d]? =some v)/\(l.foldl (fun t p=>t.setIfInBounds p.1 p.2) t).size=n
 |[],_,_,h,hs,_=>⟨h,hs⟩
 |p::r,t,env,h,hs,hp=>by
  refine T5 (ro:=ro) (ds:=ds) r _ _ (fun d v hv=>?_) (by simp[hs]) (fun q hq=>hp q (by simp[hq]));have bc:p.1<n:=hp p (by simp);simp only[look]at hv;rw[atX]
  by_cases he:p.1=d
  ·
   subst he;simp at hv;simp[hv,hs,bc]
  ·
   have:Nat.beq p.1 d=false:=Fj he;rw[this]at hv;rw[if_neg he];exact h d v hv
theorem ad3{n:Nat}{ds:List Nat}{g:Operand}{ps:List Tmp}{assign body:Code}{gf:FuncId}{lb:Array Value}[hf:aI P gf]{vals:Nat->List Value}{m:Nat}{HI:World->Prop}
  (hg:ev env g=some (.func (.func gf) #[] lb)) (hit:Iter P gf lb (fun k=>(vals k).toArray) m HI) (zS: ∀k,(vals k).length=ps.length) (HK: ∀p∈ps,p<n) {kF:Env} (hs:Sub kF env)
  {X Y:Type} (LI:Nat->X->List aj) (inv:Nat->X->Prop) (x0:X) (h0:inv 0 x0) (hL: ∀w,Mem w0 L w->Mem w0 (LI 0 x0) w) (DT: ∀k x w,inv k x->Mem w0 (LI k x) w->HI w)
  (LJ:Y->List aj) (jn:Y->Prop)
  (ad4: ∀l k x r0,k<m->inv k x->Cw P ⟨n,[],some l⟩ w0 (Exit.then (fun a w=> ∃E LE,cO ⟨n,[],some l⟩ E a/\Mem w0 (r0::LE) w/\ ∀r1,Cw P ⟨n,[],some l⟩ w0 (BH w0 r1 (LI (k+1)) (inv (k+1)) LJ jn) body E (r1::LE)) HJ) assign (T4 ps (vals k) kF) (r0::LI k x))
  (Kt: ∀D x,inv m x->Ex ⟨n,D::ds,none⟩ w0 Q .normal kF (BG D::LI m x))
  (ad5: ∀D y,jn y->Ex ⟨n,D::ds,none⟩ w0 Q .ret kF (BG D::LJ y)):
  Cw P ⟨n,ds,none⟩ w0 Q (.rangeFunc g ps.toArray assign body) env L:=fun a w ha hw=>by
 refine wpIn_rangeFunc (F:=iY none) (n:=0) fun fn _=>?_;obtain⟨rc,uV⟩: ∃rc:LoopState->Option Code->Loop,rc=fun st pe=>{state:=st,pending:=pe,fn,tmps:=a.tmps,params:=ps.toArray,assign,body,defers:=w.heap.size}:=⟨_,rfl⟩;obtain⟨W1,T6⟩: ∃W1,(w.alloc (.deferred (some []))).alloc (.loop (rc .ready none))=W1:=⟨_,rfl⟩;have hM1:Mem w0 (jt w.heap.size (w.heap.size+1) (rc .ready none)::LI 0 x0) W1:=T6▸(hL _ hw).ad0 _;refine⟨w.heap.size+1,[mark w.heap.size],W1,{target:= .fn (.func gf) lb,args:= #[.func (.yield (w.heap.size+1)) #[] #[]]},W1,gf,
  #[.func (.yield (w.heap.size+1)) #[] #[]]++lb,W1,?_,?_,?_,?_,fun h=>(by cases h),?_⟩
 ·
  rw[←T6,uV];exact run_enterLoop_outer _ _ _ _ _
 ·
  simp only[resolve,ha.ev hg];simp[go_sem]
 ·
  intro _ _;trivial
 ·
  obtain⟨fu,h1,h2,h3⟩:=hf.fn;have CL: ¬fu.body=none:=fun e=>by simp[e]at h2
  have wZ: ¬fu.name= "runtime.NumGoroutine" :=by simpa using h3
  simp[invoke,callFunc,h1,CL,wZ,Result.andThen]
 ·
  refine OP ((hit (w.heap.size+1) (fun k W=> ∃x,inv k x/\Mem w0 (jt w.heap.size (w.heap.size+1) (rc .ready none)::LI k x) W)
   (fun _ W=> ∃y,jn y/\Mem w0 (jt w.heap.size (w.heap.size+1) (rc .done (some .ret))::LJ y) W) _
   (fun k A B ⟨x,h1,h2⟩ hb=>⟨x,h1,h2.step hb⟩) (fun k A B ⟨y,h1,h2⟩ hb=>⟨y,h1,h2.step hb⟩)
   (fun k A ⟨x,h1,h2⟩=>DT k x A h1 (h2.sub (atO _ _))) ?_ ⟨x0,h0,hM1⟩).mono ?_)
  ·
   rintro k W hk ⟨x,hi,hm⟩;have hl:=(jt.get hm).2;have hy:=run_yield (P:=P) (args:=(vals k).toArray) hl (by rw[uV];simp[zS k]);rw[uV]at hy;refine⟨fn,_,assign,body,hy,roundIn_of_wpIn (F:=iY none) trivial (wpIn_mono (ad4 (w.heap.size+1) k x _ hk hi _ W ?_ hm) ?_)⟩
   ·
    have hp:=T5 (ro:=none) (ds:=[]) (ps.zip (vals k)) a.tmps kF (ha.sub hs).get ha.size (fun p hp=>HK _ (List.of_mem_zip hp).1);simp only[List.zip_toArray,List.foldl_toArray'];exact⟨by simpa using hp.2,by simpa[T4]using hp.1,rfl⟩
   ·
    rintro e a1 W1 hq
    cases e with
    |normal=>
     obtain⟨E,LE,gZ,nN,Mj⟩:=hq;have p0:=(jt.get nN).2;refine⟨_,run_beginRound p0 (by rw[uV]),wpIn_mono (Mj _ a1 _ gZ (nN.Mi _)) ?_⟩;rintro e a2 W2 oS
     cases e with
     |normal=>
      obtain⟨x',nR,nf⟩:=oS;have tC:=(jt.get nf).2;have he:=run_endRound (P:=P) none tC;refine⟨_,_,he, .inl ⟨rfl,x',nR,?_⟩⟩;have:=nf.Mi (rc .ready none);rw[uV]at this⊢;exact this
     |ret=>
      obtain⟨y,hj,nf⟩:=oS;have tC:=(jt.get nf).2;have he:=run_endRound (P:=P) (some .ret) tC;refine⟨_,_,he, .inr ⟨rfl,y,hj,?_⟩⟩;have:=nf.Mi (rc .done (some .ret));rw[uV]at this⊢;exact this
     |exit id=>exact oS.elim
     |goto t=>exact oS.elim
     |panic c=>exact oS.elim
     |outgrown=>exact oS.elim
    |exit id=>exact hq.elim
    |goto t=>exact hq.elim
    |ret=>exact hq.elim
    |panic c=>exact hq.elim
    |outgrown=>exact hq.elim
  ·
   rintro e W2 ⟨⟨v,rfl⟩,⟨x,hi,hm⟩|⟨_,y,hj,hm⟩⟩
   ·
    have hl:=(jt.get hm).2;have he:=run_endLoop (P:=P) hl (by rw[uV];simp);rw[uV]at he;refine⟨none,_,he,Kt w.heap.size x hi _ _ ⟨ha.size,(ha.sub hs).get,?_⟩ (hm.T3 _)⟩;simp[ha.defers]
   ·
    have hl:=(jt.get hm).2;have he:=run_endLoop (P:=P) hl (by rw[uV];simp);rw[uV]at he;refine⟨some .ret,_,he,wpIn_ret (ad5 w.heap.size y hj _ _ ⟨ha.size,(ha.sub hs).get,?_⟩ (hm.T3 _))⟩;simp[ha.defers]
theorem T7{n i D:Nat}{L':List aj}{fn:Func}{R:Ending->World->Prop}{e:Exit}(he:e= .ret\/e= .normal){v:Value}[k1:At L (BG D) i][k2:dm L i L'](hr: ∀a w,cO ⟨n,[],none⟩ env a->Mem w0 L' w->(results fn a.tmps).run P w= .ok v w)(h: ∀w,Mem w0 L' w->R (.returned v) w):Ex ⟨n,[D],none⟩ w0 (qD P fn R) e env L:=fun a w ha hw=>by
 have hm:Mem w0 (BG D::L') w:=by have:=hw.perm (nX k1.h);rwa [k2.h]at this
 have hD:w.heap[D]? =some (.deferred (some [])):=hm.sat (BG D) (by simp);have nf:Mem w0 L' (w.putObj D (.deferred none)):=(hm.putObj (e':= .emp) (fun _ hk=>hk.elim) rfl trivial).sub (atO _ _);have key:LeavesInM (iY none) 0 P fn a.tmps R a.defers .returning w:=by
  rw[ha.defers];exact⟨by simp, .inl ⟨D,_,rfl,run_takeDeferred hD,v,hr {tmps:=a.tmps,defers:=[]} _ ⟨ha.size,ha.get,rfl⟩ nf,h _ nf⟩⟩
 rcases he with rfl|rfl
 ·
  exact⟨.inr rfl,key⟩
 exact⟨.inl rfl,key⟩
theorem ad6{X Y:Type}{r:aj}{LI:X->List aj}{inv:X->Prop}{LJ:Y->List aj}{jn:Y->Prop}{NN:cc}(x:X)(hi:inv x)(hL: ∀w,Mem w0 L w->Mem w0 (r::LI x) w):Ex NN w0 (BH w0 r LI inv LJ jn) .normal env L:=fun _ w _ hw=>⟨x,hi,hL w hw⟩
theorem ad7{X Y:Type}{r:aj}{LI:X->List aj}{inv:X->Prop}{LJ:Y->List aj}{jn:Y->Prop}{NN:cc}(y:Y)(hj:jn y)(hL: ∀w,Mem w0 L w->Mem w0 (r::LJ y) w):Ex NN w0 (BH w0 r LI inv LJ jn) .ret env L:=fun _ w _ hw=>⟨y,hj,hL w hw⟩
theorem ad8{NN:cc}{X Y:Type}{LI:X->List aj}{inv:X->Prop}{LJ:Y->List aj}{jn:Y->Prop}{r0:aj}{body:Code}(LE:List aj)(hL: ∀w,Mem w0 L w->Mem w0 (r0::LE) w)(h: ∀r1,Cw P NN w0 (BH w0 r1 LI inv LJ jn) body env (r1::LE)):
  Ex NN w0 (Exit.then (fun a w=> ∃E LE,cO NN E a/\Mem w0 (r0::LE) w/\ ∀r1,Cw P NN w0 (BH w0 r1 LI inv LJ jn) body E (r1::LE)) HJ) .normal env L:=fun _ w ha hw=>⟨env,LE,ha,hL w hw,h⟩
end
section
variable {P:Program} {n:Nat} {w0:World} {env:Env} {L:List aj} {Q:Exit->Act->World->Prop} {l:List Oper} {k:Nat} {rest:List Oper}
def Si(P:Program)(n:Nat)(w0:World)(l:List Oper)(Q:Exit->Act->World->Prop)(k:Nat)(rest:List Oper)(env:Env):Prop:=
 l.drop k=rest-> ∀a w,cO ⟨n,[],none⟩ env a->Mem w0 [] w->wpOpsIn (iY none) 0 P l.toArray Q (List.range' k rest.length) a w
theorem drop_at{α:Type}{l rest:List α}{k:Nat}{o:α}(h:l.drop k=o::rest):l[k]? =some o/\l.drop (k+1)=rest:=by
 constructor
 ·
  have:=congrArg (·[0]?) h;simpa using this
 have:=congrArg (List.drop 1) h;simpa[au5,av2]using this
theorem ad9{id:Nat}(h:Si P n w0 l Q 0 l env):Cw P ⟨n,[],none⟩ w0 Q (.region id l.toArray false) env []:=fun a w ha hw=>
 wpIn_region (by have:=h rfl a w ha hw;rw[List.range_eq_range'];simpa using this)
theorem T8(h:Ex ⟨n,[],none⟩ w0 Q .normal env []):Si P n w0 l Q k [] env:=fun _ a w ha hw=>h a w ha hw
theorem xZ{o:Oper}{v:Value}(h:Ry P ⟨n,[],none⟩ w0 env [] o v)(hk:Si P n w0 l Q (k+1) rest (cB env o.dst v))(hg:o.guard=none:=by rfl)(hd:du ⟨n,[],none⟩ o.dst=true:=by rfl):Si P n w0 l Q k (o::rest) env:=fun hl a w ha hw=>by
 obtain⟨h1,h2⟩:=drop_at hl;rw[asZ,List.range'_succ];unfold wpOpsIn;simp only[auj,h1];rw[if_pos (qH hg)];refine⟨fun _ _=>trivial,?_⟩;have:=h a w ha hw;rw[show(iY none).round=none from rfl,Oper.semAt_none,this];exact hk h2 _ _ (ha.put hd v) hw
theorem aea{d:Option Tmp}{ty:TypeId}{ps:String}{af:Array Edge}{t:Tmp}{xs:List Operand}{ts:Array TypeId}{vs:List Value}{lp:Nat}{J Jx:World->Prop}
  (ht:look env t=some (.func (.yield lp) #[] #[])) (hx:hH env xs=some vs) (hy: ∀w,Mem w0 [] w->YieldAt (iY none) 0 P lp vs.toArray w fun e B=>(e= .returned (.bool true)/\J B)\/(e= .returned (.bool false)/\Jx B))
  (h1: ∀W,J W->Si P n W l Q (k+1) rest (cB env d (.bool true))) (h2: ∀W,Jx W->Si P n W l Q (k+1) rest (cB env d (.bool false))) (hd:du ⟨n,[],none⟩ d=true:=by rfl):
  Si P n w0 l Q k (⟨d, .call {callee:= .value (.tmp t),args:=xs.toArray,argTypes:=ts},ty,ps,af,none⟩::rest) env:=fun hl a w ha hw=>by
 obtain⟨g1,g2⟩:=drop_at hl;rw[asZ,List.range'_succ];unfold wpOpsIn;simp only[auj,g1];rw[if_pos (qH rfl)];refine⟨fun _ _=>trivial,?_⟩;obtain⟨fn,tmps,assign,body,e1,e2⟩:=hy w hw;have et:a.eval (.tmp t)= .func (.yield lp) #[] #[]:=ha.ev (x:= .tmp t) ht;have ex:xs.map a.eval=vs:=ha.hH hx;have e3:(execOp a.eval ⟨d, .call {callee:= .value (.tmp t),args:=xs.toArray,argTypes:=ts},ty,ps,af,none⟩).run P w= .ok (.round lp fn tmps assign body) w:=by
  simp[execOp,resolve,et,Deferred.ofValue,invoke,callFunc,ex,e1,Result.andThen]
 rw[show(iY none).round=none from rfl,Oper.semAt_none,e3];refine⟨fun h=>(by cases h),e2.mono fun e W hW=>?_⟩;rcases hW with⟨rfl,hj⟩|⟨rfl,hj⟩
 ·
  exact h1 W hj g2 _ W (ha.put hd _) (Mem.init W)
 ·
  exact h2 W hj g2 _ W (ha.put hd _) (Mem.init W)
theorem aeb{X:Type}{c:Code}(kF:X->Env)(I:X->World->Prop)(m:X->Nat)(x0:X)(hs:Sub (kF x0) env)(h0: ∀w,Mem w0 L w->I x0 w)
  (round: ∀x W,I x W->Cw P ⟨n,[],none⟩ W (Exit.then (fun a w=> ∃x',m x'<m x/\cO ⟨n,[],none⟩ (kF x') a/\I x' w) Q) c (kF x) []):Cw P ⟨n,[],none⟩ w0 Q (.loop c) env L:=by
 intro a0 w1 yS mL b k cs l8 hb hr;have key: ∀n' x,m x=n'-> ∀a w,cO ⟨n,[],none⟩ (kF x) a->I x w->
   ∃e a' w',Q e a' w'/\ArrivesIn (Machine.fenced P (iY none)) P (lone (b.atR a (.code c:: .inLoop c::k)) cs w) b k cs e a' w':=by
  intro n'
  induction n' using Nat.strongRecOn with
  |_ n' ih=>
   intro x hm a w ha hI;obtain⟨e,qJ,qK,hq,nA⟩:=round x w hI a w ha (Mem.init w) b (.inLoop c::k) cs l8 hb hr
   cases e with
   |normal=>
    obtain⟨x',bc,vu,Jw⟩:=hq;obtain⟨Jy,Jz,JA,JB,JC⟩:=ih (m x') (hm▸bc) x' rfl qJ qK vu Jw;exact⟨Jy,Jz,JA,JB, .of_steps (StepsIn.trans nA (.one (fenced_calm hb hr rfl) stepR_inLoop)) JC⟩
   |exit id=>exact⟨_,qJ,qK,hq, .pass (x:= .inLoop c) rfl (fun _ _=> .inl (by simp)) nA⟩
   |goto l=>exact⟨_,qJ,qK,hq, .pass (x:= .inLoop c) rfl (fun _ _=> .inl (by simp)) nA⟩
   |ret=>exact⟨_,qJ,qK,hq, .pass (x:= .inLoop c) rfl (fun _ _=> .inl (by simp)) nA⟩
   |panic ch=>exact⟨_,qJ,qK,hq, .pass (x:= .inLoop c) rfl (fun _ _=> .inl (by simp)) nA⟩
   |outgrown=>exact⟨_,qJ,qK,hq, .pass (x:= .inLoop c) rfl (fun _ _=> .inl (by simp)) nA⟩
 obtain⟨e,a',w',hq,nA⟩:=key _ x0 rfl a0 w1 (yS.sub hs) (h0 w1 mL);exact⟨e,a',w',hq, .of_steps (.one (fenced_calm hb hr rfl) stepR_loop) nA⟩
theorem aec{X:Type}{kF:X->Env}{I:X->World->Prop}{m:X->Nat}{x:X}(x':X)(hm:m x'<m x)(hs:Sub (kF x') env)(hI: ∀w,Mem w0 [] w->I x' w):
  Ex ⟨n,[],none⟩ w0 (Exit.then (fun a w=> ∃x',m x'<m x/\cO ⟨n,[],none⟩ (kF x') a/\I x' w) Q) .normal env []:=fun _ w ha hw=>⟨x',hm,ha.sub hs,hI w hw⟩
end
def omap(P:Program)(k:TypeId){α β:Type}(dk:α->Value)(eP:β->Value)(b:Nat)(f:α->Option β):aj:=
  ⟨fun i=>i=b,fun h=> ∃(es:Array MapEntry) (clock:Nat) (m:List (α×β)),h b=some (.map es clock)/\es.toList.map (fun e=>(e.key,e.val))=m.map (fun p=>(dk p.1,eP p.2))/\
    (∀p∈m,∃l,keyOf P k (dk p.1)=some l)/\(m.map Prod.fst).Nodup/\(∀x v,f x=some v↔(x,v)∈m),
   fun h h' e st=>by rw[e b rfl];exact st⟩
class BI(P:Program)(t:TypeId)(k e:outParam TypeId):Prop where
  fa:P.underlying t=some (.map k e)
class DU(P:Program)(k:TypeId):Prop where
  K:Maps.Keyed P k
class DV{α:Type}(dk:α->Value):Prop where
  inj: ∀{a b:α},dk a=dk b->a=b
class ya(P:Program)(L:List aj)(b:Nat){α β:outParam Type}(k:TypeId)(dk:outParam (α->Value))(eP:outParam (β->Value))(f:outParam (α->Option β))(i:outParam Nat):Prop where
  h:L[i]? =some (omap P k dk eP b f)
instance (priority:=high) ya.here {P:Program}{L:List aj}{b:Nat}{α β:Type}{k:TypeId}{dk:α->Value}{eP:β->Value}{f:α->Option β}:ya P (omap P k dk eP b f::L) b k dk eP f 0:=⟨rfl⟩
instance ya.there{P:Program}{L:List aj}{e:aj}{b:Nat}{α β:Type}{k:TypeId}{dk:α->Value}{eP:β->Value}{f:α->Option β}{i:Nat}[q:ya P L b k dk eP f i]:ya P (e::L) b k dk eP f (i+1):=⟨by simpa using q.h⟩
theorem T9{P:Program}{k:TypeId}{α β:Type}{dk:α→Value}{eP:β→Value}{f:α→Option β}[K:DU P k][I:DV dk]{es:Array MapEntry}{m:List (α×β)}(h1:es.toList.map (fun e=>(e.key,e.val))=m.map (fun p=>(dk p.1,eP p.2)))
    (h2: ∀p∈m,∃l,keyOf P k (dk p.1)=some l) (h3: ∀x v,f x=some v↔(x,v)∈m) {x:α} (hx: ∃l,keyOf P k (dk x)=some l) (w:World):
    ((Instr.findKey k (dk x) es.toList).run P w= .ok none w/\f x=none/\ ∀v,(x,v)∉m)\/ ∃(j:Nat) (v:β),(Instr.findKey k (dk x) es.toList).run P w= .ok (some (j,eP v)) w/\m[j]? =some (x,v)/\f x=some v/\(es[j]?).map (·.key)=some (dk x):=by
  have lS: ∀j:Nat,(es.toList[j]?).map (fun e=>(e.key,e.val))=(m[j]?).map (fun p=>(dk p.1,eP p.2)):=fun j=>by rw[←atg,←atg,h1]
  have ja: ∀e∈es.toList,∃l,keyOf P k e.key=some l:=fun e he=>by
    obtain⟨j,hj,rfl⟩:=aul he;have:=lS j;rw[as1 hj]at this
    cases hm:m[j]?with
    |none=>rw[hm]at this;cases this
    |some p=>
     rw[hm]at this;simp only[atJ,auD,av8]at this;rw[this.1];exact h2 p (alM hm)
  obtain⟨lx,wj⟩:=hx;rcases K.K.find w wj es.toList ja with⟨hr,hn⟩|⟨j,e,hr,hj,hk⟩
  ·have fZ: ∀v,(x,v)∉m:=fun v hv=>by
      obtain⟨j,hj,hje⟩:=aul hv;have:=lS j;rw[as1 hj,hje]at this
      cases he:es.toList[j]?with
      |none=>rw[he]at this;cases this
      |some e=>
       rw[he]at this;simp only[atJ,auD,av8]at this;exact hn e (alM he) this.1
   refine .inl ⟨hr,?_,fZ⟩
   cases hf:f x with
   |none=>rfl
   |some v=>exact absurd ((h3 x v).1 hf) (fZ v)
  ·have:=lS j
   rw[hj]at this
   cases hm:m[j]?with
   |none=>rw[hm]at this;cases this
   |some p=>
    rw[hm]at this;simp only[atJ,auD,av8]at this;have hp:p.1=x:=I.inj (this.1.symm.trans hk);refine .inr ⟨j,p.2,by rw[hr,this.2],by rw[hm,←hp],(h3 x p.2).2 (by rw[←hp];exact alM hm),?_⟩;have jh:es[j]? =some e:=by simpa using hj
    rw[jh,atJ,hk]
section
variable {P:Program} {N:cc} {w0:World} {env:Env} {L:List aj} {d:Option Tmp} {ty:TypeId} {ps:String} {af:Array Edge} {gd:Option (Nat×Bool)} {α β:Type} {dk:α->Value} {eP:β->Value} {f:α->Option β}
theorem run_getObj_map{w:World}{b:Nat}{es:Array MapEntry}{clock:Nat}(h:w.heap[b]? =some (.map es clock)):(getObj b).run P w= .ok (.map es clock) w:=by simp[getObj,Sem.run,h]
theorem run_setObj_map{w:World}{b:Nat}{es:Array MapEntry}{clock:Nat}(o:Obj)(h:w.heap[b]? =some (.map es clock)):(setObj b o).run P w= .ok () (w.putObj b o):=by simp[setObj,Sem.run,h,World.putObj]
theorem Mk{t k e:TypeId}{m x:Operand}{b i:Nat}{z:β}{v:α}[ht:BI P t k e][K:DU P k][I:DV dk][hz:eJ P e (eP z)](hm:ev env m=some (.map (some b)))(hx:ev env x=some (dk v))[q:ya P L b k dk eP f i](hv: ∃l,keyOf P k (dk v)=some l):
    Ry P N w0 env L ⟨d, .lookup t m x true,ty,ps,af,gd⟩ (.tuple #[eP ((f v).getD z), .bool (f v).isSome]):=fun a w ha hw=>by
  obtain⟨es,clock,ml,h0,h1,h2,_,h3⟩:=hw.get q.h;obtain⟨l,hl⟩:=hv;have hc:=K.K.check w es.isEmpty hl;simp only[execOp,ha.ev hm,ha.ev hx,Instr.lookup,Sem.run_bind,run_underlying ht.fa,Result.andThen,run_getObj_map h0,Sem.run_pure,hc];rcases T9 (P:=P) (k:=k) h1 h2 h3 ⟨l,hl⟩ w with⟨hr,hf,_⟩|⟨j,u,hr,_,hf,_⟩
  ·simp only[hr,hf,Option.getD_none,Fl w hz,Sem.run_bind,Result.andThen,Sem.run_pure];rfl
  ·simp only[hr,hf,auT,Sem.run_pure];rfl
end
section
variable {P:Program} {N:cc} {w0:World} {env:Env} {L:List aj} {l:List Oper} {Q:Exit->Act->World->Prop} {rest:List Oper} {d:Option Tmp} {ty:TypeId} {ps:String} {af:Array Edge} {α β:Type} {dk:α->Value} {eP:β->Value} {f:α->Option β}
theorem Mem.Ua{w:World}(P:Program)(k:TypeId)(dk:α->Value)(eP:β->Value)(h:Mem w0 L w):Mem w0 (omap P k dk eP w.heap.size (fun _=>none)::L) (w.alloc (.map #[] 0)):=by
  refine h.call (E:=[omap P k dk eP w.heap.size (fun _=>none)]) ⟨(Below.refl _ _).alloc (as4 _) _,fun e he=>?_,fun e he j hj=>?_,by simp⟩
  ·obtain rfl:e=omap P k dk eP w.heap.size (fun _=>none):=by simpa using he
   exact⟨#[],0,[],Below.E6 w _,rfl,by simp,by simp,by simp⟩
  ·obtain rfl:e=omap P k dk eP w.heap.size (fun _=>none):=by simpa using he
   have:j=w.heap.size:=hj;subst this;simp
theorem aed{t k e:TypeId}(dk:α→Value)(eP:β→Value){r:Operand}{kk:IntKind}{n:Int}[ht:BI P t k e](hr:ev env r=some (.int kk n))(hk: ∀b,Sq P N w0 l Q rest (cB env d (.map (some b))) (omap P k dk eP b (fun _=>none)::L))(hd:du N d=true:=by rfl):
    Sq P N w0 l Q (⟨d, .makeMap t (some r),ty,ps,af,none⟩::rest) env L:=
  oU rfl hd fun a w ha hw=>⟨_,_,_,by
    simp only[execOp,atJ,ha.ev hr,Instr.makeMap,Sem.run_bind,run_underlying ht.fa,Result.andThen,Sem.run_pure,asInt,asIntOf,newObj,Sem.run];rfl,hw.Ua P k dk eP,hk _⟩
theorem Ub{t k e:TypeId}(dk:α→Value)(eP:β→Value)[ht:BI P t k e](hk: ∀b,Sq P N w0 l Q rest (cB env d (.map (some b))) (omap P k dk eP b (fun _=>none)::L))(hd:du N d=true:=by rfl):
    Sq P N w0 l Q (⟨d, .makeMap t none,ty,ps,af,none⟩::rest) env L:=
  oU rfl hd fun a w ha hw=>⟨_,_,_,by
    simp only[execOp,Option.map_none,Instr.makeMap,Sem.run_bind,Result.andThen,Sem.run_pure,newObj,Sem.run];rfl,hw.Ua P k dk eP,hk _⟩
theorem aee{t k e:TypeId}{m x y:Operand}{b i:Nat}{v:α}{u:β}[DecidableEq α][ht:BI P t k e][K:DU P k][I:DV dk](hm:ev env m=some (.map (some b)))(hx:ev env x=some (dk v))(hy:ev env y=some (eP u))[q:ya P L b k dk eP f i](hv: ∃l,keyOf P k (dk v)=some l)
    {L':List aj} [hu:fF L i (omap P k dk eP b (fun z=>if z=v then some u else f z)) L'] {a:Act} {w:World} (ha:cO N env a) (hw:Mem w0 L w):
    ∃w',(execOp a.eval ⟨none, .mapUpdate t m x y,ty,ps,af,none⟩).run P w= .ok .skip w'/\Mem w0 L' w':=by
  obtain⟨es,clock,ml,h0,h1,h2,cA,h3⟩:=hw.get q.h;obtain⟨lk,hl⟩:=hv;have hc:=K.K.check w false hl;have bq:=K.K.stays w hl;have step: ∀o:Obj,(omap P k dk eP b (fun z=>if z=v then some u else f z)).sat (fun j=>(w.putObj b o).heap[j]?)->Mem w0 L' (w.putObj b o):=fun o ho=>by
    rw[←hu.h];exact hw.change q.h (fun j hj=>hj) (fun j hj=>World.putObj_heap_other (fun e=>hj e)) World.putObj_size ⟨rfl,rfl,rfl⟩ ho
  have bc:b<w.heap.size:=(auC.1 h0).1;rcases T9 (P:=P) (k:=k) h1 h2 h3 ⟨lk,hl⟩ w with⟨hr,hf,fZ⟩|⟨j,u0,hr,hj,hf,aef⟩
  ·refine⟨w.putObj b (.map (es.push {key:=dk v,val:=eP u,born:=clock}) (clock+1)),?_,step _ ⟨_,_,ml++[(v,u)],World.putObj_heap_same bc,?_,?_,?_,?_⟩⟩
   ·simp only[execOp,ha.ev hm,ha.ev hx,ha.ev hy,Instr.mapUpdate,Sem.run_bind,run_underlying ht.fa,Result.andThen,run_getObj_map h0,hc,hr,run_setObj_map _ h0,Sem.run_pure]
   ·simp[h1]
   ·intro p hp
    rcases as8.1 hp with hp|hp
    ·exact h2 p hp
    ·obtain rfl:p=(v,u):=by simpa using hp
     exact⟨lk,hl⟩
   ·rw[atE,auK]
    refine⟨cA,by simp,fun x1 pE y1 HL e1=>?_⟩;obtain rfl:y1=v:=by simpa using HL
    subst e1;obtain⟨p,hp,rfl⟩:=at7.1 pE;exact fZ p.2 hp
   ·intro x' v'
    show(if x'=v then some u else f x')=some v'↔_
    by_cases e:x'=v
    ·subst e;rw[if_pos rfl]
     constructor
     ·intro h;cases h;simp
     ·intro h
      rcases as8.1 h with h|h
      ·exact absurd h (fZ v')
      ·simp at h;rw[h]
    ·rw[if_neg e,h3 x' v'];simp[e]
  ·have iX:j<ml.length:=(ad2.1 hj).1
   refine⟨w.putObj b (.map (es.modify j fun e=>{e with key:=dk v,val:=eP u}) clock),?_,step _ ⟨_,_,ml.set j (v,u),World.putObj_heap_same bc,?_,?_,?_,?_⟩⟩
   ·simp only[execOp,ha.ev hm,ha.ev hx,ha.ev hy,Instr.mapUpdate,Sem.run_bind,run_underlying ht.fa,Result.andThen,run_getObj_map h0,hc,hr,aef,auT,bq,run_setObj_map _ h0,Sem.run_pure]
   ·refine at5 fun n=>?_
    have:=congrArg (·[n]?) h1;simp only[atg]at this⊢;rw[atI]
    by_cases e:j=n
    ·subst e
     rw[if_pos rfl,if_pos iX];rw[hj]at this
     cases he:es.toList[j]?with
     |none=>rw[he]at this;cases this
     |some e0=>
      have qM:es[j]? =some e0:=by simpa using he
      simp[Array.getElem?_modify,qM]
    ·rw[if_neg e,←this]
     simp[Array.getElem?_modify,e]
   ·intro p hp
    rcases atx hp with hp|rfl
    ·exact h2 p hp
    ·exact⟨lk,hl⟩
   ·rw[avr]
    have:(ml.map Prod.fst)[j]? =some v:=by rw[atg,hj];rfl
    rw[show(ml.map Prod.fst).set j (v,u).1=ml.map Prod.fst from by
        refine at5 fun n=>?_;rw[atI]
        by_cases e:j=n
        ·subst e;rw[if_pos rfl,if_pos (by simpa using iX),this]
        ·rw[if_neg e]]
    exact cA
   ·intro x' v'
    have aeg: ∀n p,ml[n]? =some p→p.1=v→n=j:=fun n p hn hp=>by
        have a1:(ml.map Prod.fst)[n]? =some v:=by rw[atg,hn,atJ,hp]
        have a2:(ml.map Prod.fst)[j]? =some v:=by rw[atg,hj];rfl
        exact(List.getElem?_inj (by simpa using(ad2.1 hn).1) cA).1 (a1.trans a2.symm)
    show(if x'=v then some u else f x')=some v'↔_
    by_cases e:x'=v
    ·subst e;rw[if_pos rfl]
     constructor
     ·intro h;cases h
      exact alM (i:=j) (by rw[atI,if_pos rfl,if_pos iX])
     ·intro h
      obtain⟨n,hn⟩:=aue.1 h;rw[atI]at hn
      by_cases en:j=n
      ·rw[if_pos en,if_pos iX]at hn;simp only[auD,av8,true_and]at hn;rw[hn]
      ·rw[if_neg en]at hn;exact absurd (aeg n _ hn rfl).symm en
    ·rw[if_neg e,h3 x' v']
     constructor
     ·intro h
      obtain⟨n,hn⟩:=aue.1 h;refine alM (i:=n) ?_;rw[atI,if_neg,hn];rintro rfl;rw[hj]at hn;simp only[auD,av8]at hn;exact e hn.1.symm
     ·intro h
      rcases atx h with h|h
      ·exact h
      ·simp only[av8]at h;exact absurd h.1 e
theorem Ml{t k e:TypeId}{m x y:Operand}{b i:Nat}{v:α}{u:β}[DecidableEq α][ht:BI P t k e][K:DU P k][I:DV dk](hm:ev env m=some (.map (some b)))(hx:ev env x=some (dk v))(hy:ev env y=some (eP u))[q:ya P L b k dk eP f i](hv: ∃l,keyOf P k (dk v)=some l)
    {L':List aj} [hu:fF L i (omap P k dk eP b (fun z=>if z=v then some u else f z)) L'] (hk:Sq P N w0 l Q rest env L'):
    Sq P N w0 l Q (⟨none, .mapUpdate t m x y,ty,ps,af,none⟩::rest) env L:=
  Fs rfl rfl fun a w ha hw=>by
    obtain⟨w',h1,h2⟩:=aee (t:=t) (k:=k) (e:=e) (ty:=ty) (ps:=ps) (af:=af) hm hx hy hv (L':=L') ha hw;exact⟨w',L',h1,h2,hk⟩
end
open Go.Kb
theorem Mm{w0 w:World}{L R:List aj}{e:aj}{i:Nat}(q:L[i]? =some e)(d:L.eraseIdx i=R)(h:Mem w0 L w):Mem w0 (e::R) w:=by
 have:=h.perm (nX q);rwa [d]at this
theorem tD{w0 w:World}{L R1 R2:List aj}{e1 e2:aj}{i j:Nat}(h1:L[i]? =some e1)(d1:L.eraseIdx i=R1)(h2:R1[j]? =some e2)(d2:R1.eraseIdx j=R2)(h:Mem w0 L w):Mem w0 (e1::e2::R2) w:=by
 subst d1;subst d2;exact h.perm ((nX h1).trans ((nX h2).cons _))
theorem aeh{p:aZ}(h:bo p=true):IntKind.i64.wrap (1*2^min (4 -(p.len -4*((bJ p:Nat):Int))).toNat IntKind.i64.bits)=((2^mh p:Nat):Int):=by
 obtain⟨h1,h2⟩:=Dp h;have e:(4 -(p.len -4*((bJ p:Nat):Int))).toNat=mh p:=rfl;rw[e];generalize mh p=x at h1
 match x,h1 with
 |0,_=>rfl
 |1,_=>rfl
 |2,_=>rfl
 |3,_=>rfl
 |4,_=>rfl
instance (priority:=low) ai.drop {L L':List aj}{e:aj}[k:ai L L']:ai (e::L) L':=⟨by
 obtain⟨R,hR⟩:=k.h;exact⟨e::R,(hR.cons e).trans avh.symm⟩⟩
section
variable {P:Program} {N:cc} {w0:World} {env:Env} {L:List aj} {Q:Exit->Act->World->Prop} {d:Option Tmp} {ty:TypeId} {ps:String} {af:Array Edge} {gd:Option (Nat×Bool)} {K:Value->List aj->Prop}
theorem Ry.to{o:Oper}{v v':Value}(h:Ry P N w0 env L o v)(e:v=v'):Ry P N w0 env L o v':=e▸h
theorem HM{f:FuncId}{x:Operand}{lV:Array Value}{xs:List Operand}{ts:Array TypeId}{vs:List Value}{v:Value}[hf:aI P f](hx:ev env x=some (.func (.func f) #[] lV))(hxs:hH env xs=some vs)
  (hc: ∀w,Mem w0 L w->Calls P f (vs++lV.toList).toArray w fun e w'=>e= .returned v/\Mem w [] w'):
  Yl P N w0 env L ⟨d, .call {callee:= .value x,args:=xs.toArray,argTypes:=ts},ty,ps,af,gd⟩ v:=fun a ha w hw=>by
 unfold Oper.quietAt;obtain⟨fn,h1,h2,h3⟩:=hf.fn;have CL: ¬fn.body=none:=fun e=>by simp[e]at h2
 have wZ: ¬fn.name= "runtime.NumGoroutine" :=by simpa using h3
 have e:(execOp a.eval ⟨d, .call {callee:= .value x,args:=xs.toArray,argTypes:=ts},ty,ps,af,gd⟩).run P w= .ok (.enter f (vs++lV.toList).toArray) w:=by
  have hm:=ha.hH hxs;simp[execOp,resolve,ha.ev hx,Deferred.ofValue,invoke,callFunc,h1,CL,wZ,Result.andThen,←hm]
 rw[e];exact⟨rfl,hc w hw⟩
theorem Mn{f:Fn}{xs:List Operand}{vs:List Value}(hx:hH env xs=some vs):Ry P N w0 env L ⟨d, .makeFunc f #[] xs.toArray,ty,ps,af,gd⟩ (.func f #[] vs.toArray):=fun a w ha _=>by
 have hm:=ha.hH hx;simp[execOp,Instr.makeFunc,Result.andThen,←hm]
instance (s:Sv):cg (uj s) 0 s.val:=⟨rfl⟩
instance (s:Sv):cg s.val.cells 0 s.val:=⟨by rw[Sv.jC];rfl⟩
variable {s:Sv} {xs:List Nd} {a:Nd}
theorem aei{t:TypeId}{x y:Operand}{i k p:Nat}{v:Int}[ht:fW P t](hx:ev env x=some (.pointer (some ⟨s.b,p,none⟩)))(hy:ev env y=some (.int .i64 v))[q:fI L s dB 48 xs i](ha:xs[k]? =some a)(b:Nat)(hb:b<16)(fG:p=s.o+k*48+32+b){L':List aj}[hu:fF L i (own dB 48 s (xs.set k (a.xF b v))) L'](hk:K undef (L')):
  iL P N w0 env L ⟨none, .store t x y,ty,ps,af,none⟩ K:=
 xA (j:=32+b) (n:=1) (a':=a.xF b v) ht.size hx hy (q:=q) (by omega) ha (by simp[Value.cells,Value.oneCell']) rfl (by omega) (abf a hb v) hk
end
end Go.ax
namespace Go.Proofs.YtkggjjnhnjjokaaGreatDoor
open Go.ax Go.Kb Go.RowKit
instance:eJ Tryz.prog 97 (.agg (eO Bc)):=⟨by kernel_rfl⟩
instance:eJ Tryz.prog 180 (.agg (bY qW)):=⟨by kernel_rfl⟩
instance:eJ Tryz.prog 59 (.agg (aS hO)):=⟨by kernel_rfl⟩
instance:eJ Tryz.prog 5 (.int .u8 0):=⟨by kernel_rfl⟩
instance:eJ Tryz.prog 53 (.slice none 0 0):=⟨by kernel_rfl⟩
variable {w0:World}{L:List aj}
instance apf{b:Int}{n:Int}{s:Int}:cx Tryz.prog 93 w0 L [.int .i64 b, .int .i64 n, .int .i64 s] (.bool (vU b n s)) (True):=⟨fun aF w hw=>by
 refine s9 Tryz.func93 rfl Tryz.ntmps93 rfl ?_;refine aak ?_;refine Gr fun w1 hw=>?_;exact⟨congrArg (fun b=>Ending.returned (Value.bool b)) (rfl),ai.mem hw⟩⟩
instance apg{c:Cp}[hc:aT w0 L c]:cx Tryz.prog 106 w0 L [.agg (aS c)] (.bool (bb (cv c))) (True):=⟨fun aF w hw=>by
 have hc:=hc.h w hw;have lD:cG w c:=⟨hc⟩;have dX:=iq c.blocks.xs;have bD:bb (cv c)=true↔vU c.blocks.xs.length c.pages c.size=true/\0<=c.ops/\c.ops<=cV/\c.aV.xs.length<=64/\ ∀b∈jl c.blocks.xs,qY c.pages c.size b=true:=by rw[fJ];simp only[cv,dX]
 have ra:cV=1099511627776:=rfl;refine cD Tryz.func106 rfl Tryz.ntmps106 rfl ?_;refine Gc ?_;refine bN rfl fun b1=>aal ?_;refine Gb (fun h0=>?_) fun h0=>?_
 ·
  have hz:bb (cv c)=false:=by
   cases hk:bb (cv c)with
   |false=>rfl
   |true=>
    have g:=bD.1 hk;rw[g.1]at h0;simp only[auR,false_or]at h0;omega
  refine al ?_;refine Gr fun w1 hw=>?_;exact Ge (hz.symm) hw
 have g0:vU c.blocks.xs.length c.pages c.size=true/\0<=c.ops/\c.ops<=cV/\c.aV.xs.length<=64:=by
  cases hk:vU c.blocks.xs.length c.pages c.size with
  |false=>rw[hk]at h0;simp at h0
  |true=>rw[hk]at h0;simp only[auR,not_false_eq_true,true_and]at h0;exact⟨rfl,by omega,by omega,by omega⟩
 have gs:=mj.1 g0.1;refine ba ?_;refine bR (X:=Nat) (fun zz=>[(35, .int .i64 (zz:Nat)),(1, .pointer (some ⟨b1,0,none⟩)),(33,c.blocks.sv.val),(34, .int .i64 (c.blocks.xs.length:Nat))]) (fun zz=>[aq b1 (aS c) 59]) (fun zz=>zz<=c.blocks.xs.length/\ ∀j b,j<zz->(jl c.blocks.xs)[j]? =Option.some b->qY c.pages c.size b=true) (fun zz=>c.blocks.xs.length -zz) 0 ⟨Nat.zero_le _,fun j b hj=>by first|omega|(simp only[];omega)⟩ sb (fun w hw=>ai.mem hw) ?_;rintro i ⟨bg,aH⟩;refine al ?_;refine Gb (fun h1=>?_) fun h1=>?_
 ·
  refine od ?_;obtain⟨x,hx⟩:=get_some (xs:=c.blocks.xs) (i:=i) oM;refine ag (aX rfl rfl i rfl oM) (ag (gQ rfl i hx rfl) ?_);have aph:Mb x c.blocks:=⟨List.mem_of_getElem? hx⟩;refine bl fun b4=>aam ?_;refine Gb (fun h2=>?_) fun h2=>?_
  ·
   have hz:bb (cv c)=false:=by
    cases hk:bb (cv c)with
    |false=>rfl
    |true=>
     have g:=fm.1 ((bD.1 hk).2.2.2.2 (bv x) (alM (nH hx)));simp only[bv,pt]at g;omega
   refine al ?_;refine Gr fun w1 hw=>?_;exact Ge (hz.symm) hw
  refine ba ?_;refine bR (X:=Nat) (fun zz=>[(70, .int .i64 (zz:Nat)),(1, .pointer (some ⟨b1,0,none⟩)),(33,c.blocks.sv.val),(34, .int .i64 (c.blocks.xs.length:Nat)),(35, .int .i64 (i:Nat)),(68,x.pages.sv.val),(69, .int .i64 (x.pages.xs.length:Nat))]) (fun zz=>[aq b4 (bY x) 180,aq b1 (aS c) 59]) (fun zz=>zz<=x.pages.xs.length/\ ∀k y,k<zz->(bv x).pages[k]? =Option.some y->(y.length:Int)=c.size) (fun zz=>x.pages.xs.length -zz) 0 ⟨Nat.zero_le _,fun k y hk=>by first|omega|(simp only[];omega)⟩ sb (fun w hw=>ai.mem hw) ?_;rintro j ⟨jJ,eS⟩;refine al ?_;refine Gb (fun h3=>?_) fun h3=>?_
  ·
   refine od ?_;obtain⟨y,hy⟩:=get_some (xs:=x.pages.xs) (i:=j) oM;refine ag (aX rfl rfl j rfl oM) (ag (bL (j:=0) rfl j hy rfl (by decide)) ?_);have api:Mb y _:=⟨List.mem_of_getElem? hy⟩;refine fk ?_;refine Gb (fun h4=>?_) fun h4=>?_
   ·
    have hz:bb (cv c)=false:=by
     cases hk:bb (cv c)with
     |false=>rfl
     |true=>
      have g:=(fm.1 ((bD.1 hk).2.2.2.2 (bv x) (alM (nH hx)))).2.2.2.2.2 y.xs (alM (qX hy));omega
    refine al ?_;refine Gr fun w1 hw=>?_;exact Ge (hz.symm) hw
   refine al ?_;refine Gi ?_;exact bm (x:=(j)) (j+1) ⟨oF,fun k z hk hz=>if e:k=j then(by subst e;rw[show(bv x).pages=aM x.pages.xs from rfl,qX hy]at hz;cases hz;omega)else eS k z oF hz⟩ oF sb (fun w hw=>ai.mem hw)
  have xQ:qY c.pages c.size (bv x)=true:=fm.2 ⟨by simp only[bv,pt];omega,by simp only[bv];omega,by simp only[bv];omega,by simp only[bv];omega,by simp only[bv];omega,fun y hy=>by
   obtain⟨k,hk⟩:=ato hy;exact eS k y (by have h:=(ad2.1 hk).1;simp only[bv,pt]at h;omega) hk⟩
  refine al ?_;refine Gi ?_;exact bm (x:=(i)) (i+1) ⟨oF,fun j b hj hb=>if e:j=i then(by subst e;rw[nH hx]at hb;cases hb;exact xQ)else aH j b oF hb⟩ oF sb (fun w hw=>ai.mem hw)
 obtain rfl:i=c.blocks.xs.length:=by omega
 have hz:bb (cv c)=true:=bD.2 ⟨g0.1,g0.2.1,g0.2.2.1,g0.2.2.2,fun b hb=>by
  obtain⟨j,hj⟩:=ato hb;exact aH j b (by have:=(ad2.1 hj).1;omega) hj⟩
 refine al ?_;refine Gr fun w1 hw=>?_;exact⟨congrArg (fun b=>Ending.returned (Value.bool b)) (hz.symm),ai.mem hw⟩⟩
theorem aej{xs:List UInt8}{k i:Nat}(h:k+i<xs.length):(xs.take k++(List.replicate i 255++xs.drop (k+i))).set (k+i) 255=xs.take k++(List.replicate (i+1) 255++xs.drop (k+(i+1))):=by
 rw[auW _ _ (by rw[as6];omega),as6,avI oM,aus,auW _ _ (by simp),atT,auJ,au9 h,auq,List.replicate_succ',ate,avf,auB]
theorem aek(w0 w:World)(L:List aj)(rm:Sv)(k:Nat)(n:Nat)(cap:Nat)(xs:List UInt8)(hw:Mem w0 (own aQ 1 rm xs::L) w)(aF:k+n<=xs.length/\n<=1000000):Calls Tryz.prog 94 #[.slice (some ⟨rm.b,rm.o+k,none⟩) n cap] w fun e w'=> ∃zz:Unit,e= .returned (.tuple #[])/\(True)/\Mem w0 (own aQ 1 rm (xs.take k++(List.replicate n 255++xs.drop (k+n)))::L) w':=by
 obtain⟨gL,gX⟩:=aF;refine kG (args:=[_]) Tryz.func94 rfl Tryz.ntmps94 rfl hw ?_;change Cw _ _ _ _ _ [(0, .slice (some ⟨rm.b,rm.o+k,none⟩) n cap)] (own aQ 1 rm xs::L);refine aA ?_;refine ag (yO rfl) (aA ?_);refine bR (X:=Nat×List UInt8) (fun zz=>[(5, .int .i64 (zz.1:Nat)),(0, .slice (some ⟨rm.b,rm.o+k,none⟩) n cap),(4, .int .i64 (n:Nat))]) (fun zz=>own aQ 1 rm zz.2::L) (fun zz=>zz.1<=n/\zz.2=xs.take k++(List.replicate zz.1 255++xs.drop (k+zz.1))) (fun zz=>n -zz.1) (0,xs) ⟨Nat.zero_le _,by simp⟩ sb (fun w hw=>ai.mem hw) ?_;rintro⟨i,zs⟩ ⟨bg,aH⟩;dsimp only;simp only at bg aH;have rj:zs.length=xs.length:=by rw[aH];simp only[List.length_append,List.length_take,List.length_replicate,List.length_drop];omega
 refine al ?_;refine Gb (fun h0=>?_) fun h0=>?_
 ·
  refine ba ?_;refine ag (O1 (b:=rm.b) (o:=rm.o+k) (len:=n) (cap:=cap) rfl rfl oM oM) ?_;obtain⟨z,hz⟩:=get_some (xs:=zs) (i:=k+i) oM;refine kW (s:=rm) (n:=1) (k:=k+i) (j:=0) (a:=z) (a':=(255:UInt8)) (xs:=zs) (enc:=aQ) (c:=1) (v:= .int .u8 255) oK rfl rfl oM hz (by simp[Value.cells,Value.oneCell']) rfl oM (by rfl) (al ?_);refine Gi ?_;exact bm (x:=(i,zs)) (i+1,zs.set (k+i) 255) ⟨oF,by rw[aH];exact aej oF⟩ (by simp only;omega) sb (fun w hw=>ai.mem hw)
 obtain rfl:i=n:=by omega
 refine Gc ?_;refine eV (.inr rfl) (DS rfl) (fun w1 hw=>?_);exact⟨(),rfl,trivial,by rw[←aH];exact ai.mem hw⟩
instance ael{w0:World}{L L2:List aj}{i:Nat}{rm:Sv}{k:Nat}{n:Nat}{cap:Nat}{xs:List UInt8}[q:fI L rm aQ 1 xs i][d1:dm L i L2]:bQ Tryz.prog 94 w0 L [.slice (some ⟨rm.b,rm.o+k,none⟩) n cap] (Unit) (fun zz=> .tuple #[]) (fun zz=>own aQ 1 rm (xs.take k++(List.replicate n 255++xs.drop (k+n)))::L2) (fun zz=>True) (k+n<=xs.length/\n<=1000000):=⟨fun hp w hw=>aek w0 w L2 rm k n cap xs (Mm q.h d1.h hw) hp⟩
instance apj{s:Sv}{ss:List Bk}[hs:cP w0 L bY 4 s ss]:bQ Tryz.prog 162 w0 L [s.val] (Sv) (fun zz=>zz.val) (fun zz=>own bY 4 zz ss::L) (fun zz=>True) (ss.length<=1000000):=⟨fun aF w hw=>Gk (fun zz=>[own bY 4 zz ss]) hw (by
 have hs:=hs.h w hw;have yb:Gv w s bY 4 ss:=⟨hs⟩;refine cD Tryz.func162 rfl Tryz.ntmps162 rfl ?_;refine av ?_;refine ag (vB Tryz.underlying56 rfl) (Gc ?_);refine Gb (fun h0=>?_) fun h0=>?_
 ·
  have e0:ss=[]:=ati.1 (by have:=hs.ok.nil h0;have:=hs.len;omega);refine al ?_;refine Gr fun w1 hw=>?_;exact⟨Sv.none,rfl,trivial,by rw[e0];exact(ai.mem hw:Mem w [] _).dA bY 4⟩
 refine Gc ?_;refine xo bY fun b5=>Gs ?_;refine kV (s:=⟨false,b5,0,0,0,none⟩) (enc:=bY) (ys:=ss) rfl rfl (by decide) (fun w hw=>jN (s:=s) Tryz.underlying56 (by decide) ((inferInstance:cP _ _ bY 4 s ss).h w hw)) (by simp only[as0];omega) (by simp only[as0];omega) fun s7 zT yc=>?_;refine aA ?_;refine Gr fun w1 hw=>?_;exact⟨s7,rfl,trivial,by rw[atQ]at hw;exact ai.mem hw⟩)⟩
instance apk{s:Sv}{ss:List Ft}[hs:cP w0 L eO 4 s ss]:bQ Tryz.prog 107 w0 L [s.val] (Sv) (fun zz=>zz.val) (fun zz=>own eO 4 zz ss::L) (fun zz=>True) (ss.length<=1000000):=⟨fun aF w hw=>Gk (fun zz=>[own eO 4 zz ss]) hw (by
 have hs:=hs.h w hw;have yb:Gv w s eO 4 ss:=⟨hs⟩;refine cD Tryz.func107 rfl Tryz.ntmps107 rfl ?_;refine av ?_;refine ag (vB Tryz.underlying57 rfl) (Gc ?_);refine Gb (fun h0=>?_) fun h0=>?_
 ·
  have e0:ss=[]:=ati.1 (by have:=hs.ok.nil h0;have:=hs.len;omega);refine al ?_;refine Gr fun w1 hw=>?_;exact⟨Sv.none,rfl,trivial,by rw[e0];exact(ai.mem hw:Mem w [] _).dA eO 4⟩
 refine Gc ?_;refine xo eO fun b5=>Gs ?_;refine kV (s:=⟨false,b5,0,0,0,none⟩) (enc:=eO) (ys:=ss) rfl rfl (by decide) (fun w hw=>jN (s:=s) Tryz.underlying57 (by decide) ((inferInstance:cP _ _ eO 4 s ss).h w hw)) (by simp only[as0];omega) (by simp only[as0];omega) fun s7 zT yc=>?_;refine aA ?_;refine Gr fun w1 hw=>?_;exact⟨s7,rfl,trivial,by rw[atQ]at hw;exact ai.mem hw⟩)⟩
instance apl{ps:Sl (Sl UInt8)}[zS:aT w0 L ps]:bQ Tryz.prog 179 w0 L [ps.sv.val] (Sl (Sl UInt8)) (fun zz=>zz.sv.val) (fun zz=>fA zz::L) (fun zz=>aM zz.xs=aM ps.xs) (Rs (aM ps.xs)):=⟨fun aF w hw=>Gk (fun zz=>[fA zz]) hw (by
 have zS:=zS.h w hw;have apm:cG w ps:=⟨zS⟩;obtain⟨gL,gX⟩:=aF;have bX:=pt ps.xs;rw[bX]at gL;refine cD Tryz.func179 rfl Tryz.ntmps179 rfl ?_;refine av ?_;refine ag (vB Tryz.underlying178 rfl) (Gc ?_);refine Gb (fun h0=>?_) fun h0=>?_
 ·
  have e0:ps.xs=[]:=ati.1 (by have:=zS.1.ok.nil h0;have:=zS.1.len;omega);refine al ?_;refine Gr fun w1 hw=>?_;exact⟨⟨Sv.none,[]⟩,rfl,by rw[e0],abu (Mem.dA (cd (τ:=UInt8)) 1 (ai.mem hw:Mem w [] _))⟩
 refine dv ?_;refine bR (X:=Nat×Nat) (fun zz=>[(15, .int .i64 (zz.1:Nat)),(3, .int .i64 (zz.2:Nat)),(0,ps.sv.val),(13,ps.sv.val),(14, .int .i64 (ps.xs.length:Nat))]) (fun zz=>[]) (fun zz=>zz.1<=ps.xs.length/\zz.2=((aM ps.xs).take zz.1).flatten.length) (fun zz=>ps.xs.length -zz.1) (0,0) ⟨Nat.zero_le _,by simp⟩ sb (fun w hw=>ai.mem hw) ?_;rintro⟨i,mm⟩ ⟨bg,aH⟩;dsimp only;simp only at bg aH;refine al ?_;refine Gb (fun h1=>?_) fun h1=>?_
 ·
  obtain⟨y,hy⟩:=get_some (xs:=ps.xs) (i:=i) oM;have Uc:Mb y ps:=⟨List.mem_of_getElem? hy⟩;have BJ:=Dt (qX hy);have iT:=Du (aM ps.xs) (i+1);refine Gc ?_;refine ag (aX rfl rfl i rfl oM) (ag (bL (j:=0) rfl i hy rfl (by decide)) ?_);have apn:Mb y _:=⟨List.mem_of_getElem? hy⟩;refine s8 ?_;refine Gi ?_;exact bm (x:=(i,mm)) (i+1,mm+y.xs.length) ⟨oF,by rw[aH,BJ]⟩ (by simp only;omega) sb (fun w hw=>ai.mem hw)
 obtain rfl:i=ps.xs.length:=by omega
 rw[List.take_of_length_le oM]at aH;have hN:mm=(aM ps.xs).flatten.length:=aH;refine aA ?_;refine ui (enc:=aQ) (n:=0) (cap:=mm) 0 rfl rfl rfl rfl rfl oM oM oM fun yd=>av ?_;refine ui (enc:=cd (τ:=UInt8)) (n:=ps.xs.length) (cap:=ps.xs.length) (⟨Sv.none,[]⟩:Sl UInt8) rfl rfl rfl rfl rfl oM oM oM fun tE=>ba ?_;refine bR (X:=Nat×Nat×List UInt8×List (Sl UInt8)) (fun zz=>[(31, .int .i64 (zz.1:Nat)),(6,(⟨false,yd,0,zz.2.1,mm,none⟩:Sv).val),(7,(⟨false,tE,0,ps.xs.length,ps.xs.length,none⟩:Sv).val),(29,ps.sv.val),(30, .int .i64 (ps.xs.length:Nat))]) (fun zz=>[own aQ 1 ⟨false,yd,0,zz.2.1,mm,none⟩ zz.2.2.1,own (cd (τ:=UInt8)) 1 ⟨false,tE,0,ps.xs.length,ps.xs.length,none⟩ zz.2.2.2]) (fun zz=>zz.1<=ps.xs.length/\zz.2.1=zz.2.2.1.length/\zz.2.2.1=((aM ps.xs).take zz.1).flatten/\zz.2.2.2=dD ⟨false,yd,0,mm,mm,none⟩ 0 ((aM ps.xs).take zz.1)++List.replicate (ps.xs.length -zz.1) (⟨Sv.none,[]⟩:Sl UInt8)) (fun zz=>ps.xs.length -zz.1) (0,0,List.replicate 0 0,List.replicate ps.xs.length (⟨Sv.none,[]⟩:Sl UInt8)) ⟨Nat.zero_le _,rfl,by simp,by simp[dD]⟩ sb (fun w hw=>ai.mem hw) ?_;rintro⟨i,m,r,zs⟩ ⟨bg,aH,bA,dj⟩;dsimp only;simp only at bg aH bA dj;refine al ?_;refine Gb (fun h2=>?_) fun h2=>?_
 ·
  obtain⟨y,hy⟩:=get_some (xs:=ps.xs) (i:=i) oM;have Uc:Mb y ps:=⟨List.mem_of_getElem? hy⟩;have BJ:=Dt (qX hy);have iT:=Du (aM ps.xs) (i+1);have ye:r.length+y.xs.length<=mm:=by rw[hN,bA,←BJ];exact iT
  have qm:=get_some (xs:=zs) (i:=i) (by rw[dj,af0,KW,as6,atT];omega);obtain⟨z,hz⟩:=qm;have rj:i<zs.length:=(ad2.1 hz).1;refine aA ?_;refine ag (aX rfl rfl i rfl oM) (ag (bL (j:=0) rfl i hy rfl (by decide)) ?_);have apo:Mb y _:=⟨List.mem_of_getElem? hy⟩;refine iF ?_;refine abr (s:=⟨false,yd,0,m,mm,none⟩) (enc:=aQ) (xs:=r) (ys:=y.xs) rfl rfl (fun w hw=>jN (s:=y.sv) Tryz.underlying53 (by decide) ((inferInstance:cP _ _ aQ 1 y.sv y.xs).h w hw)) rfl (by simp only;omega) (by simp only;omega) ?_;refine s8 ?_;refine ag (Ry.to (v':=(win (⟨false,yd,0,mm,mm,none⟩:Sv) r.length (r.length+y.xs.length)).val) (QK (l:=r.length) (h:=(r++y.xs).length) (m:=(r++y.xs).length) rfl rfl rfl rfl rfl rfl rfl (by simp) (by simp) (by simp)) (by simp[win,Sv.sub,Sv.top])) (ag (aX rfl rfl i rfl oM) (FF (s:=⟨false,tE,0,ps.xs.length,ps.xs.length,none⟩) (xs:=zs) (k:=i) (a:=z) (⟨(win (⟨false,yd,0,mm,mm,none⟩:Sv) r.length (r.length+y.xs.length)),y.xs⟩:Sl UInt8) oK rfl rfl oM hz (al ?_)));refine Gi ?_;exact bm (x:=(i,m,r,zs)) (i+1,m+y.xs.length,r++y.xs,zs.set i ⟨(win (⟨false,yd,0,mm,mm,none⟩:Sv) r.length (r.length+y.xs.length)),y.xs⟩) ⟨oF,by rw[af0,aH],by rw[bA,atf,qX hy];simp,by rw[dj];exact abw (by rw[bX]) bA (qX hy)⟩ (by simp only;omega) sb (fun w hw=>ai.mem hw)
 obtain rfl:i=ps.xs.length:=by omega
 rw[ath oM]at bA dj;rw[auJ,List.replicate_zero,atK]at dj;refine av ?_;refine Gr fun w1 hw=>?_;exact⟨⟨⟨false,tE,0,ps.xs.length,ps.xs.length,none⟩,zs⟩,rfl,by rw[dj,xG],Rr (rm:=⟨false,yd,0,mm,mm,none⟩) dj rfl (by rw[show m=mm by rw[aH,bA,hN],bA]at hw;exact ai.mem hw)⟩)⟩
instance apq{c:Cp}[hc:aT w0 L c]:bQ Tryz.prog 105 w0 L [.agg (aS c)] (Cp) (fun zz=> .agg (aS zz)) (fun zz=>own bY 4 zz.blocks.sv zz.blocks.xs::aj.all (zz.blocks.xs.map fun b:Bk=>fA b.pages)::own eO 4 zz.aV.sv zz.aV.xs::L) (fun zz=>cv zz=cv c) (gU c):=⟨fun aF w hw=>Gk (fun zz:Cp=>[own bY 4 zz.blocks.sv zz.blocks.xs,aj.all (zz.blocks.xs.map fun b:Bk=>fA b.pages),own eO 4 zz.aV.sv zz.aV.xs]) hw (by
 have hc:=hc.h w hw;have lD:cG w c:=⟨hc⟩;obtain⟨gL,gX,kO⟩:=aF;refine cD Tryz.func105 rfl Tryz.ntmps105 rfl ?_;refine Gc ?_;refine bN rfl fun b1=>bl fun b2=>al ?_;refine bj rfl oM fun x6 Ud=>Gs ?_;refine eU (cs':=aS (⟨c.pages,c.size,⟨x6,c.blocks.xs⟩,c.ops,c.off,c.aV⟩:Cp)) rfl rfl (by show 2<6;decide) (by first|rfl|exact Sv.one _) rfl (ba ?_);refine bR (X:=Nat×List Bk) (fun zz=>[(11, .int .i64 (zz.1:Nat)),(1, .pointer (some ⟨b1,0,none⟩)),(2, .pointer (some ⟨b2,0,none⟩)),(10, .int .i64 (c.blocks.xs.length:Nat))]) (fun zz=>[own bY 4 x6 zz.2,aj.all ((zz.2.take zz.1).map fun b:Bk=>fA b.pages),aq b2 (aS hO) 59,aq b1 (aS (⟨c.pages,c.size,⟨x6,zz.2⟩,c.ops,c.off,c.aV⟩:Cp)) 59]) (fun zz=>zz.1<=c.blocks.xs.length/\zz.2.length=c.blocks.xs.length/\jl zz.2=jl c.blocks.xs/\ ∀j,zz.1<=j->zz.2[j]? =c.blocks.xs[j]?) (fun zz=>c.blocks.xs.length -zz.1) (0,c.blocks.xs) ⟨Nat.zero_le _,rfl,rfl,fun _ _=>rfl⟩ sb (fun w hw=>by
  simp only[atH,aud];exact ai.mem (Mem.zo hw)) ?_
 rintro⟨i,zs⟩ ⟨bg,aH,bA,dj⟩;dsimp only;simp only at bg aH bA dj;refine al ?_;refine Gb (fun h0=>?_) fun h0=>?_
 ·
  obtain⟨z,hz⟩:=get_some (xs:=zs) (i:=i) oM;have yf:Mb z c.blocks:=⟨List.mem_of_getElem? (by rw[←dj i (as4 _)];exact hz)⟩;refine al ?_;refine ij ?_;refine Gj (s:=x6) (enc:=bY) (c:=4) (xs:=zs) inferInstance oM fun hn6 hs6 ho6 hl6=>?_;refine jE [9,12,1003,1004,1006,1007,1008,1010,1011] [[],[],[],[],[3],[],[3,4],[3,4,6],[3,4,6,7],[3,4,6,7,8],[3,4,6,7,8,9],[3,4,6,7,8,9,10],[3,4,6,7,8,9,10,11]] [0,1,2,3,4,5,6,7,8,9,10,11,12] [aq b1 (aS (⟨c.pages,c.size,⟨x6,zs⟩,c.ops,c.off,c.aV⟩:Cp)) 59] (fun _ hw=>ai.mem hw) oK oK (an rfl (aL (o':=2) rfl rfl) (an rfl (bO rfl) (an rfl (aU rfl) (lJ rfl (aL (o':=2) rfl rfl) (lJ rfl (bO rfl) (an rfl (aU rfl) (lJ rfl (aX rfl rfl i rfl oM) (lJ rfl (aL rfl rfl) (lJ rfl (bL (j:=0) rfl i hz rfl (by decide)) (dS rfl (qd rfl (kO z yf.h) fun oC HN=>⟨fun _ hw=>ai.mem hw,?_⟩)))))))))));refine lJ rfl (nU (s:=x6) (i:=i) rfl rfl rfl ho6 oM) (lJ rfl (aL rfl rfl) ?_);refine dS rfl (xA (n:=1) (k:=i) (j:=0) (a:=z) (a':=({z with pages:=oC}:Bk)) (xs:=zs) (enc:=bY) (c:=4) (v:=oC.sv.val) oK rfl rfl rfl hz (by rw[Sv.jC];simp[Sv.one]) (by rw[Sv.jC];rfl) (by decide) (by rw[Sv.jC];rfl) ⟨fun _ hw=>ai.mem hw,?_⟩)
  refine al ?_;refine Gi ?_;exact bm (x:=(i,zs)) (i+1,zs.set i ({z with pages:=oC}:Bk)) ⟨oF,by rw[atC];exact aH,by rw[zv,←bA,show bv ({z with pages:=oC}:Bk)=bv z from by rw[bv,bv,HN],←zv,xI hz],fun j hj=>by rw[att oF];exact dj j oF⟩ (by simp only;omega) sb (fun w hw=>by
   have h1:=Mem.Be (e:=fA oC) (es:=(zs.take i).map fun b:Bk=>fA b.pages) (ai.mem hw:Mem _ (fA oC::aj.all ((zs.take i).map fun b:Bk=>fA b.pages)::[own bY 4 x6 (zs.set i ({z with pages:=oC}:Bk)),aq b2 (aS hO) 59,aq b1 (aS (⟨c.pages,c.size,⟨x6,zs⟩,c.ops,c.off,c.aV⟩:Cp)) 59]) _)
   rw[abD (z':=({z with pages:=oC}:Bk)) hz]at h1
   exact(ai.mem h1:Mem _ [own bY 4 x6 (zs.set i ({z with pages:=oC}:Bk)),aj.all (((zs.set i ({z with pages:=oC}:Bk)).take (i+1)).map fun b:Bk=>fA b.pages),aq b2 (aS hO) 59,aq b1 (aS (⟨c.pages,c.size,⟨x6,zs⟩,c.ops,c.off,c.aV⟩:Cp)) 59] _))
 obtain rfl:i=zs.length:=by omega
 rw[ath (as4 _)]at*;refine aA ?_;refine ag (Ry.to (v':=c.aV.sv.val) (bO rfl) rfl) (bj rfl oM fun qn DW=>Gs ?_);refine eU (cs':=aS (⟨c.pages,c.size,⟨x6,zs⟩,c.ops,c.off,⟨qn,c.aV.xs⟩⟩:Cp)) rfl rfl (by show 5<6;decide) (by first|rfl|exact Sv.one _) rfl (av ?_);refine Gr fun w1 hw=>?_;exact⟨⟨c.pages,c.size,⟨x6,zs⟩,c.ops,c.off,⟨qn,c.aV.xs⟩⟩,rfl,by simp only[cv,bA],ai.mem hw⟩)⟩
instance apr{c:Cp}{b:Int}[hc:aT w0 L c]:cx Tryz.prog 298 w0 L [.agg (aS c), .int .i64 b] (.bool (ir (cv c) b)) (True):=⟨fun aF w hw=>by
 have hc:=hc.h w hw;have lD:cG w c:=⟨hc⟩;refine cQ Tryz.func298 rfl Tryz.ntmps298 rfl ?_;refine Gc ?_;refine bN rfl fun b2=>QB ?_;refine Gr fun w1 hw=>?_;exact⟨congrArg (fun b=>Ending.returned (Value.bool b)) ((by simp only[ir,cv,iq])),ai.mem hw⟩⟩
instance aps{c:Cp}[hc:aT w0 L c]:cx Tryz.prog 299 w0 L [.agg (aS c)] (.tuple #[.agg (eO ((bt (cv c)).1)), .bool ((bt (cv c)).2)]) (c.aV.xs.length<=1000000):=⟨fun aF w hw=>by
 have hc:=hc.h w hw;have lD:cG w c:=⟨hc⟩;refine cD Tryz.func299 rfl Tryz.ntmps299 rfl ?_;refine Gc ?_;refine bN rfl fun b1=>bl fun b2=>dv ?_;refine bR (X:=Nat) (fun zz=>[(9, .int .i64 (zz:Nat)),(1, .pointer (some ⟨b1,0,none⟩)),(2, .pointer (some ⟨b2,0,none⟩)),(7,c.aV.sv.val),(8, .int .i64 (c.aV.xs.length:Nat))]) (fun zz=>[aq b2 (eO Bc) 97,aq b1 (aS c) 59]) (fun zz=>zz<=c.aV.xs.length/\ ∀j f,j<zz->c.aV.xs[j]? =Option.some f->f.op≠c.ops) (fun zz=>c.aV.xs.length -zz) 0 ⟨Nat.zero_le _,fun j f hj=>by first|omega|(simp only[];omega)⟩ sb (fun w hw=>ai.mem hw) ?_;rintro i ⟨bg,aH⟩;refine al ?_;refine Gb (fun h0=>?_) fun h0=>?_
 ·
  refine od ?_;obtain⟨f,hf⟩:=get_some (xs:=c.aV.xs) (i:=i) oM;refine ag (aX rfl rfl i rfl oM) (ag (gQ rfl i hf rfl) (bl fun b5=>fk ?_));refine Gb (fun h1=>?_) fun h1=>?_
  ·
   have hs:bt (cv c)=(f,f.cut||f.fail):=abF hf aH h1;refine Gi ?_;refine jE [7] [[],[],[],[],[],[],[],[],[7]] [0,1,2,3,4,5,6,7,8] [aq b5 (eO f) 97,aq b1 (aS c) 59] (fun _ hw=>ai.mem hw) oK oK (an rfl (gE rfl) (an rfl (aL (o':=2) rfl rfl) (an rfl (bO rfl) (an rfl (aU rfl) (Qx rfl rfl rfl rfl (fun hg=>(Ry.yl (aL (o':=1) rfl rfl))) (Qx rfl rfl rfl rfl (fun hg=>(Ry.yl (bO (az hg rfl)))) (an rfl (wW rfl rfl rfl) (dS rfl (rS rfl rfl ⟨fun _ hw=>ai.mem hw,?_⟩)))))))));refine an rfl (eI rfl) (Gc ?_);refine Gr fun w1 hw=>?_;exact⟨(by rw[hs]),ai.mem hw⟩
  refine al ?_;refine Gi ?_;exact bm (x:=(i)) (i+1) ⟨oF,fun j g hj hg=>if e:j=i then(by subst e;rw[hf]at hg;cases hg;exact h1)else aH j g oF hg⟩ oF sb (fun w hw=>ai.mem hw)
 obtain rfl:i=c.aV.xs.length:=by omega
 have hs:bt (cv c)=(Bc,false):=abE (fun f hf=>by
  obtain⟨j,hj⟩:=ato hf;exact aH j f (ad2.1 hj).1 hj)
 refine Gc ?_;refine ag (di (v:= .agg (eO Bc)) rfl (fun w=>by kernel_rfl)) (al ?_);refine Gr fun w1 hw=>?_;exact⟨(by rw[hs]),ai.mem hw⟩⟩
instance apt{f:Ft}:cx Tryz.prog 300 w0 L [.agg (eO f)] (.tuple #[.bool f.cut, .int .i64 (mn f)]) (True):=⟨fun aF w hw=>by
 refine cD Tryz.func300 rfl Tryz.ntmps300 rfl ?_;refine Gc ?_;refine bN rfl fun b1=>ba ?_;refine Gb (fun h0=>?_) fun h0=>?_
 ·
  refine av ?_;refine Gr fun w1 hw=>?_;exact⟨(by rw[mn,if_pos h0,h0]),ai.mem hw⟩
 refine av ?_;refine Gr fun w1 hw=>?_;exact⟨(by rw[mn,if_neg (by rw[h0];simp),h0]),ai.mem hw⟩⟩
instance apu{c:Cp}{b:Int}[hc:aT w0 L c]:bQ Tryz.prog 301 w0 L [.agg (aS c), .int .i64 b] (Cp) (fun zz=> .tuple #[.agg (aS zz), .int .i64 (qi (cv c) b)]) (fun zz=>fz zz::L) (fun zz=>cv zz=mo (cv c) b) (gU c):=⟨fun aF w hw=>Gk (fun zz=>[fz zz]) hw (by
 have hc:=hc.h w hw;have lD:cG w c:=⟨hc⟩;have ng:gU c:=aF;obtain⟨gL,gX,kO⟩:=aF;refine cQ Tryz.func301 rfl Tryz.ntmps301 rfl ?_;refine Gc ?_;refine bN rfl fun b2=>bl fun b4=>al ?_;refine bj rfl (by assumption) fun x8 sq=>bl fun b6=>dv ?_;refine Gb (fun h0=>?_) fun h0=>?_
 ·
  have hE:qi (cv c) b=1:=by rw[qi,if_neg (by rw[h0];simp)]
  refine aN ?_;refine Gr fun w1 hw=>?_;exact⟨x8,by rw[hE],by rw[sq,mo,if_neg (by rw[hE];decide)],py x8 (ai.mem hw)⟩
 have hk:ir (cv c) b=true:=h0;have hh:=hk;have zU:=(iu.1 hh).2;have dX:x8.blocks.xs.length=c.blocks.xs.length:=by have:=congrArg (fun v:CV=>v.blocks.length) sq;simpa only[cv,iq]using this
 have BK:x8.ops=c.ops:=congrArg CV.ops sq;have pJ:(cv c).blocks.length=c.blocks.xs.length:=iq _;obtain⟨B,hB⟩:=get_some (xs:=x8.blocks.xs) (i:=b.toNat) oM;have oD:b.toNat<x8.blocks.xs.length:=(ad2.1 hB).1;have fg:bv B=ak (cv c) b:=by
  have h1:=GS hh;have h2:=nH hB;rw[show jl x8.blocks.xs=(cv c).blocks from congrArg CV.blocks sq,h1]at h2;exact(asY h2).symm
 have gM:qY c.pages c.size (bv B)=true:=by rw[fg];exact qZ hh
 obtain⟨o1,o2,o3,o4,o5,o6⟩:=fm.1 gM;have iU:=mj.1 (fJ.1 (iu.1 hh).1).1;have DX:=(fJ.1 (iu.1 hh).1).2.1;simp only[bv,cv]at o1 o2 o3 o4 o5 o6 iU DX;have Ue:=pt B.pages.xs;refine av ?_;refine Gb (fun h1=>?_) fun h1=>?_
 ·
  have hE:qi (cv c) b=7:=by rw[qi,if_pos hk,if_pos (show(cv c).off=true from h1)]
  refine aN ?_;refine Gr fun w1 hw=>?_;exact⟨x8,by rw[hE],by rw[sq,mo,if_neg (by rw[hE];decide)],py x8 (ai.mem hw)⟩
 have hE:qi (cv c) b=0:=by rw[qi,if_pos hk,if_neg (by rw[show(cv c).off=false from h1];simp)]
 refine av ?_;refine ag (aX rfl rfl b.toNat oM oD) (ag (aL rfl rfl) (kW (s:=x8.blocks.sv) (n:=1) (k:=b.toNat) (j:=3) (a:=B) (a':=(⟨B.pages,B.used,B.aR,true⟩:Bk)) (xs:=x8.blocks.xs) (enc:=bY) (c:=4) (v:= .bool true) oK rfl rfl rfl hB (by simp[Value.cells,Value.oneCell']) (by rfl) (by decide) (by rfl) (aN ?_)));refine Gr fun w1 hw=>?_;exact⟨(⟨x8.pages,x8.size,⟨x8.blocks.sv,x8.blocks.xs.set b.toNat (⟨B.pages,B.used,B.aR,true⟩:Bk)⟩,x8.ops,x8.off,x8.aV⟩:Cp),by rw[hE];rfl,by rw[abM sq fg,mo,if_pos hE],py (⟨x8.pages,x8.size,⟨x8.blocks.sv,x8.blocks.xs.set b.toNat (⟨B.pages,B.used,B.aR,true⟩:Bk)⟩,x8.ops,x8.off,x8.aV⟩:Cp) (by
  simp only[abL hB (B':=(⟨B.pages,B.used,B.aR,true⟩:Bk)) rfl];exact ai.mem hw)⟩)⟩
instance apv{c:Cp}{fs:Sv}{tF:List Ft}[hc:aT w0 L c][Mo:cP w0 L eO 4 fs tF]:bQ Tryz.prog 42 w0 L [.agg (aS c),fs.val] (Cp) (fun zz=> .tuple #[.agg (aS zz), .int .i64 (xH (cv c) tF)]) (fun zz=>fz zz::L) (fun zz=>cv zz=Ds (cv c) tF) (gU c):=⟨fun aF w hw=>Gk (fun zz=>[fz zz]) hw (by
 have hc:=hc.h w hw;have Mo:=Mo.h w hw;have lD:cG w c:=⟨hc⟩;have apw:Gv w fs eO 4 tF:=⟨Mo⟩;have ng:gU c:=aF;obtain⟨gL,gX,kO⟩:=aF;refine cQ Tryz.func42 rfl Tryz.ntmps42 rfl ?_;refine Gc ?_;refine bN rfl fun b2=>bl fun b4=>al ?_;refine bj rfl (by assumption) fun x8 sq=>bl fun b6=>qe ?_;refine Gb (fun h0=>?_) fun h0=>?_
 ·
  have hE:xH (cv c) tF=1:=by rw[xH,if_neg (fun h=>by rw[h.1]at h0;simp only[auR,false_or]at h0;omega)]
  refine aN ?_;refine Gr fun w1 hw=>?_;exact⟨x8,by rw[hE],by rw[sq,Ds,if_neg (by rw[hE];decide)],py x8 (ai.mem hw)⟩
 have hE:xH (cv c) tF=0:=by
  rw[xH,if_pos]
  cases hk:bb (cv c)with
  |false=>rw[hk]at h0;simp at h0
  |true=>exact⟨rfl,by rw[hk]at h0;simp only[auR,not_false_eq_true,true_and]at h0;omega⟩
 have eL:tF.length<=64:=by
  by_cases h9:bb (cv c)=true/\tF.length<=64
  ·
   exact h9.2
  rw[xH,if_neg h9]at hE;cases hE
 refine aA ?_;refine eU (cs':=aS (⟨x8.pages,x8.size,x8.blocks,x8.ops,false,x8.aV⟩:Cp)) rfl rfl (by show 4<6;decide) (by first|rfl|exact Sv.one _) rfl (aA ?_);refine bj rfl oM fun iJ zV=>Gs ?_;refine eU (cs':=aS (⟨x8.pages,x8.size,x8.blocks,x8.ops,false,⟨iJ,tF⟩⟩:Cp)) rfl rfl (by show 5<6;decide) (by first|rfl|exact Sv.one _) rfl (aN ?_);refine Gr fun w1 hw=>?_;exact⟨(⟨x8.pages,x8.size,x8.blocks,x8.ops,false,⟨iJ,tF⟩⟩:Cp),by rw[hE],by rw[Ds,if_pos hE,←sq];rfl,py (⟨x8.pages,x8.size,x8.blocks,x8.ops,false,⟨iJ,tF⟩⟩:Cp) (ai.mem hw)⟩)⟩
instance apx{b:Sv}{bs:List UInt8}[hb:cP w0 L aQ 1 b bs]:cx Tryz.prog 269 w0 L [.int .u32 0,b.val] (.int .u32 (po bs:Nat)) (True):=⟨fun aF w hw=>by
 have hb:=hb.h w hw;have zW:Gv w b aQ 1 bs:=⟨hb⟩;have jk:=hb.bd;refine cQ Tryz.func269 rfl Tryz.ntmps269 rfl ?_;refine av ?_;refine ag (RN (p:=0) rfl rfl (by decide)) (ba ?_);refine bR (X:=Nat) (fun zz=>[(13, .int .i64 (zz:Nat)),(5, .int .u32 (k7 4294967295 (bs.take zz):Nat)),(11,b.val),(12, .int .i64 (bs.length:Nat))]) (fun zz=>[]) (fun zz=>zz<=bs.length) (fun zz=>bs.length -zz) 0 (atv _) sb (fun w hw=>ai.mem hw) ?_;rintro i hi;have bc:k7 4294967295 (bs.take i)<2^32:=Gn (by decide) _;refine al ?_;refine Gb (fun h0=>?_) fun h0=>?_
 ·
  obtain⟨y,he⟩:=get_some (xs:=bs) (i:=i) oM;have hy:=y.toNat_lt;have eM:k7 4294967295 (bs.take i)^^^y.toNat<2^32:=avg (Gn (by decide) _) oM;refine Gc ?_;refine ag (aX rfl rfl i rfl oM) (ag (bL (j:=0) rfl i he rfl (by decide)) (av ?_));refine ag (kE rfl (by simp only[nb];omega)) (ag (Jp rfl rfl rfl rfl (by simp only[nb];omega) (by simp only[nb];omega)) (av ?_));refine bR (X:=Nat) (fun zz=>[(21, .int .i64 (zz:Nat)),(5, .int .u32 ((pn (k7 4294967295 (bs.take i)^^^y.toNat) zz):Nat)),(11,b.val),(12, .int .i64 (bs.length:Nat)),(13, .int .i64 (i:Nat))]) (fun zz=>[]) (fun zz=>zz<=8) (fun zz=>8 -zz) 0 (atv _) sb (fun w hw=>ai.mem hw) ?_;rintro k hk;refine al ?_;refine Gb (fun h1=>?_) fun h1=>?_
  ·
   have og:(pn (k7 4294967295 (bs.take i)^^^y.toNat) k)<2^32:=KJ eM k;have yg:(pn (k7 4294967295 (bs.take i)^^^y.toNat) k)/2<2^32:=by omega
   refine aA ?_;refine ag (Ry.to (v':= .int .u32 (((pn (k7 4294967295 (bs.take i)^^^y.toNat) k)%2:Nat):Int)) (O8 (p:=(pn (k7 4294967295 (bs.take i)^^^y.toNat) k)) (q:=1) rfl rfl rfl rfl (by simp only[nb];omega) (by decide)) (by rw[Nat.and_one_is_mod])) (al ?_);refine ag (w8 (p:=(pn (k7 4294967295 (bs.take i)^^^y.toNat) k)) rfl rfl (by simp only[nb];omega) oM) (av ?_);refine ag (Yv (p:=3988292384) (q:=(pn (k7 4294967295 (bs.take i)^^^y.toNat) k)%2) rfl rfl rfl rfl (by simp only[nb];omega)) ?_;refine ag (Ry.to (v':= .int .u32 ((pn (k7 4294967295 (bs.take i)^^^y.toNat) (k+1):Nat):Int)) (Jp (p:=(pn (k7 4294967295 (bs.take i)^^^y.toNat) k)/2^1) (q:=3988292384*((pn (k7 4294967295 (bs.take i)^^^y.toNat) k)%2)) rfl rfl rfl rfl (by simp only[nb];omega) (by simp only[nb];omega)) (by rw[pn,KI];rcases Nat.mod_two_eq_zero_or_one (pn (k7 4294967295 (bs.take i)^^^y.toNat) k)with h|h<;>rw[h]<;>rfl)) ?_;refine av ?_;refine Gi ?_;exact bm (x:=(k)) (k+1) oF oF sb (fun w hw=>ai.mem hw)
  obtain rfl:k=8:=by omega
  refine al ?_;refine Gi ?_;exact bm (x:=(i)) (i+1) oF oF (Sub.cons rfl (Sub.cons (look_eq rfl (by rw[aaC he];rfl)) sb)) (fun w hw=>ai.mem hw)
 obtain rfl:i=bs.length:=by omega
 refine aA ?_;refine ag (RN (p:=k7 4294967295 (bs.take bs.length)) rfl rfl (Gn (by decide) _)) (aA ?_);refine Gr fun w1 hw=>?_;exact⟨(by rw[atr];rfl),ai.mem hw⟩⟩
instance apy{b:Sv}{bs:List UInt8}[hb:cP w0 L aQ 1 b bs]:cx Tryz.prog 229 w0 L [b.val] (.int .u32 (po bs:Nat)) (True):=⟨fun aF w hw=>by
 have hb:=hb.h w hw;have zW:Gv w b aQ 1 bs:=⟨hb⟩;refine cD Tryz.func229 rfl Tryz.ntmps229 rfl ?_;refine dv ?_;refine Gr fun w1 hw=>?_;exact⟨rfl,ai.mem hw⟩⟩
instance apz{n:Nat}{many:Nat}:bQ Tryz.prog 112 w0 L [.int .u64 (n:Nat), .int .i64 (many:Nat)] (Sv) (fun zz=>zz.val) (fun zz=>own aQ 1 zz (be n many)::L) (fun zz=>True) (n<2^64/\1<=many/\many<=8):=⟨fun aF w hw=>Gk (fun zz=>[own aQ 1 zz (be n many)]) hw (by
 obtain⟨gL,gX,kO⟩:=aF;refine cQ Tryz.func112 rfl Tryz.ntmps112 rfl ?_;refine s8 ?_;refine Gb (fun h0=>?_) fun h0=>?_
 ·
  exfalso;omega
 refine aA ?_;refine ui (enc:=aQ) (n:=many) (cap:=many) 0 rfl rfl rfl rfl rfl oM oM oM fun HO=>al ?_;refine ag (Ry.to (v':= .int .i64 (many:Nat)) (qN rfl) (by simp)) (aA ?_);refine bR (X:=Nat) (fun zz=>[(17, .int .i64 (zz:Nat)),(5,(⟨false,HO,0,many,many,none⟩:Sv).val),(0, .int .u64 (n:Nat)),(1, .int .i64 (many:Nat)),(16, .int .i64 (many:Nat))]) (fun zz=>[own aQ 1 ⟨false,HO,0,many,many,none⟩ (List.replicate (many -zz) (0:UInt8)++be n zz)]) (fun zz=>zz<=many) (fun zz=>many -zz) 0 (atv _) sb (fun w hw=>by rw[show List.replicate (many -0) (0:UInt8)++be n 0=List.replicate many 0 from by rw[be,atK,Nat.sub_zero]];exact ai.mem hw) ?_;rintro i hi;have dX:=jP n i;have GW:(List.replicate (many -i) (0:UInt8)++be n i).length=many:=by rw[af0,atT,dX];omega
 refine al ?_;refine Gb (fun h1=>?_) fun h1=>?_
 ·
  refine qe ?_;refine ag (rJ rfl rfl oM) (ag (Ry.to (v':= .int .u64 ((n/256^i:Nat):Int)) (w8 (p:=n) rfl rfl (by simp only[nb];omega) oM) (by rw[show(8*(i:Int)).toNat=8*i by omega,Nat.pow_mul])) (ag (CX rfl rfl) (ag (aX rfl rfl (many -1 -i) oM oM) ?_)));refine adZ rfl rfl (by rw[atb (by rw[atT];omega),avC,if_pos oM]) rfl ?_;refine al ?_;refine Gi ?_;exact bm (x:=(i)) (i+1) oF oF sb (fun w hw=>by rw[abQ oM]at hw;exact ai.mem hw)
 have Mp:i=many:=by omega
 refine av ?_;refine Gr fun w1 hw=>?_;exact⟨⟨false,HO,0,many,many,none⟩,rfl,trivial,by rw[Mp,auJ,List.replicate_zero,atQ]at hw;exact ai.mem hw⟩)⟩
instance apA{b:Sv}{bs:List UInt8}[hb:cP w0 L aQ 1 b bs]:cx Tryz.prog 113 w0 L [b.val] (.int .u64 (de bs:Nat)) (bs.length<=7):=⟨fun aF w hw=>by
 have hb:=hb.h w hw;have zW:Gv w b aQ 1 bs:=⟨hb⟩;refine cD Tryz.func113 rfl Tryz.ntmps113 rfl ?_;refine iF ?_;refine bR (X:=Nat) (fun zz=>[(8, .int .i64 (zz:Nat)),(3, .int .u64 (de (bs.take zz):Nat)),(6,b.val),(7, .int .i64 (bs.length:Nat))]) (fun zz=>[]) (fun zz=>zz<=bs.length) (fun zz=>bs.length -zz) 0 (atv _) sb (fun w hw=>ai.mem hw) ?_;rintro i hi;refine al ?_;refine Gb (fun h0=>?_) fun h0=>?_
 ·
  obtain⟨y,he⟩:=get_some (xs:=bs) (i:=i) oM;have hy:=y.toNat_lt;have bc:de (bs.take i)<256^6:=atS (JR bs i hi) (auc (by decide) oM);refine Gc ?_;refine ag (aX rfl rfl i rfl oM) (ag (bL (j:=0) rfl i he rfl (by decide)) (al ?_));refine ag (abP (p:=de (bs.take i)) rfl rfl rfl oM) (Gs ?_);refine ag (kE rfl (by simp only[nb];omega)) (ag (CN (p:=de (bs.take i)*256) (q:=y.toNat) rfl rfl rfl rfl (by simp only[nb];omega) (by simp only[nb];omega)) (av ?_));refine Gi ?_;exact bm (x:=(i)) (i+1) oF oF (Sub.cons rfl (Sub.cons (look_eq rfl (by rw[Pn he,Po _ _ hy])) sb)) (fun w hw=>ai.mem hw)
 obtain rfl:i=bs.length:=by omega
 refine av ?_;refine Gr fun w1 hw=>?_;exact⟨(by rw[atr]),ai.mem hw⟩⟩
instance apB{n:Nat}:bQ Tryz.prog 185 w0 L [.slice none 0 0, .int .i64 (n:Nat)] (Sv) (fun zz=>zz.val) (fun zz=>own aQ 1 zz ([]:List UInt8)::L) (fun zz=>True) (n<=1000000000):=⟨fun aF w hw=>Gk (fun zz=>[own aQ 1 zz ([]:List UInt8)]) hw (by
 refine cQ Tryz.func185 rfl Tryz.ntmps185 rfl ?_;refine ba ?_;refine Gb (fun h0=>?_) fun h0=>?_
 ·
  exfalso;omega
 refine al ?_;refine ag (Gp rfl) (Gs ?_);refine ag (yO rfl) (dv ?_);refine Gb (fun h1=>?_) fun h1=>?_
 ·
  refine Gi ?_;refine aA ?_;refine ag (Gp rfl) (ag (Ry.to (v':= .slice none 0 0) (xi (s:=Sv.none) (h:=0) rfl rfl rfl Sv.CT (as4 _)) rfl) (Gs ?_));refine QP (enc:=aQ) (k:=n) (0:UInt8) rfl rfl oM oM (by decide) rfl Tryz.underlying3 oM oM fun DY DZ Mq=>Gs ?_;refine ag (yO rfl) (ag (xi (s:=⟨false,DY,0,n,DZ,none⟩) (h:=0) rfl rfl rfl ⟨(fun h=>by cases h),Mq,by simp only;omega,fun _=>rfl⟩ (atv _)) (aN ?_));refine Gr fun w1 hw=>?_;refine⟨Sv.sub ⟨false,DY,0,n,DZ,none⟩ 1 0 0,rfl,trivial,?_⟩;have ft:=Mem.QO (i:=0) (k:=0) hw rfl (atv _);rw[atH]at ft;exact ft
 have hn:n=0:=by omega
 refine av ?_;refine Gr fun w1 hw=>?_;exact⟨Sv.none,rfl,trivial,(ai.mem hw:Mem w [] _).dA aQ 1⟩)⟩
instance apC{a:Sl (Sl UInt8)}[ha:aT w0 L a]:bQ Tryz.prog 111 w0 L [a.sv.val] (Sv) (fun zz=>zz.val) (fun zz=>own aQ 1 zz (k8 a.xs)::L) (fun zz=>True) ((k8 a.xs).length<=1000000):=⟨fun aF w hw=>Gk (fun zz=>[own aQ 1 zz (k8 a.xs)]) hw (by
 have ha:=ha.h w hw;have Mr:cG w a:=⟨ha⟩;have rD:=ha.1.bd;have eL:=aaF a.xs;refine cD Tryz.func111 rfl Tryz.ntmps111 rfl ?_;refine iF ?_;refine bR (X:=Nat) (fun zz=>[(11, .int .i64 (zz:Nat)),(3, .int .i64 ((k8 (a.xs.take zz)).length:Nat)),(0,a.sv.val),(9,a.sv.val),(10, .int .i64 (a.xs.length:Nat))]) (fun zz=>[]) (fun zz=>zz<=a.xs.length) (fun zz=>a.xs.length -zz) 0 (atv _) sb (fun w hw=>ai.mem hw) ?_;rintro i hi;have xB:=eL i;have lI:=eL (i+1);refine al ?_;refine Gb (fun h0=>?_) fun h0=>?_
 ·
  refine od ?_;obtain⟨x,hx⟩:=get_some (xs:=a.xs) (i:=i) oM;refine ag (aX rfl rfl i rfl oM) (ag (bL (j:=0) rfl i hx rfl (by decide)) ?_);have hfx:(k8 (a.xs.take (i+1))).length=(k8 (a.xs.take i)).length+x.xs.length:=by rw[Gt hx,af0]
  have HP:Mb x _:=⟨List.mem_of_getElem? hx⟩;refine qe ?_;refine Gb (fun h1=>?_) fun h1=>?_
  ·
   exfalso;omega
  refine al ?_;refine Gi ?_;exact bm (x:=(i)) (i+1) oF oF (Sub.cons rfl (Sub.cons (look_eq rfl (by rw[Gt hx,af0];simp)) sb)) (fun w hw=>ai.mem hw)
 obtain rfl:i=a.xs.length:=by omega
 have nW:=eL a.xs.length;refine aA ?_;refine bj rfl oM fun qo D0=>ba ?_;refine bR (X:=Nat×Sv) (fun zz=>[(27, .int .i64 (zz.1:Nat)),(6,zz.2.val),(25,a.sv.val),(26, .int .i64 (a.xs.length:Nat))]) (fun zz=>[own aQ 1 zz.2 (k8 (a.xs.take zz.1))]) (fun zz=>zz.1<=a.xs.length) (fun zz=>a.xs.length -zz.1) (0,qo) (Nat.zero_le _) sb (fun w hw=>(ai.mem hw:Mem _ [own aQ 1 qo ([]:List UInt8)] _)) ?_;rintro⟨k,s1⟩ hk;dsimp only;simp only at hk;have xB:=eL k;have lI:=eL (k+1);refine al ?_;refine Gb (fun h2=>?_) fun h2=>?_
 ·
  refine od ?_;obtain⟨y,hy⟩:=get_some (xs:=a.xs) (i:=k) oM;refine ag (aX rfl rfl k rfl oM) (ag (bL (j:=0) rfl k hy rfl (by decide)) ?_);have hfy:(k8 (a.xs.take (k+1))).length=(k8 (a.xs.take k)).length+y.xs.length:=by rw[Gt hy,af0]
  have Uf:Mb y _:=⟨List.mem_of_getElem? hy⟩;refine av ?_;refine kV (s:=s1) (ys:=y.xs) rfl rfl (by decide) (fun w hw=>jN (s:=y.sv) Tryz.underlying53 (by decide) ((inferInstance:Hd _ _ y.sv aQ 1 y.xs).h w hw)) oM oM fun Ms aem aen=>?_;refine av ?_;refine Gi ?_;exact bm (x:=(k,s1)) (k+1,Ms) (by simp only;omega) (by simp only;omega) sb (fun w hw=>by rw[Gt hy];exact ai.mem hw)
 obtain rfl:k=a.xs.length:=by omega
 refine av ?_;refine Gr fun w1 hw=>?_;exact⟨s1,rfl,trivial,by rw[atr]at hw;exact ai.mem hw⟩)⟩
instance apD{s:Sv}{ss:List UInt8}[hs:cP w0 L aQ 1 s ss]:bQ Tryz.prog 230 w0 L [s.val] (Sv) (fun zz=>zz.val) (fun zz=>own aQ 1 zz ss::L) (fun zz=>True) (ss.length<=1000000):=⟨fun aF w hw=>Gk (fun zz=>[own aQ 1 zz ss]) hw (by
 have hs:=hs.h w hw;have yb:Gv w s aQ 1 ss:=⟨hs⟩;refine cD Tryz.func230 rfl Tryz.ntmps230 rfl ?_;refine av ?_;refine ag (vB Tryz.underlying53 rfl) (Gc ?_);refine Gb (fun h0=>?_) fun h0=>?_
 ·
  have e0:ss=[]:=ati.1 (by have:=hs.ok.nil h0;have:=hs.len;omega);refine al ?_;refine Gr fun w1 hw=>?_;exact⟨Sv.none,rfl,trivial,by rw[e0];exact(ai.mem hw:Mem w [] _).dA aQ 1⟩
 refine Gc ?_;refine xo aQ fun b5=>Gs ?_;refine kV (s:=⟨false,b5,0,0,0,none⟩) (ys:=ss) rfl rfl (by decide) (fun w hw=>jN (s:=s) Tryz.underlying53 (by decide) ((inferInstance:Hd _ _ s aQ 1 ss).h w hw)) (by simp only[af0,asZ,as0];omega) (by simp only[af0,asZ,as0];omega) fun s7 zT yc=>?_;refine aA ?_;refine Gr fun w1 hw=>?_;exact⟨s7,rfl,trivial,by simpa using hw⟩)⟩
instance:eJ Tryz.prog 324 (.agg (c8 pz)):=⟨by kernel_rfl⟩
instance apE{n:Int}:cx Tryz.prog 144 w0 L [.int .i64 n] (.bool (ot n)) (True):=⟨fun aF w hw=>by
 refine cD Tryz.func144 rfl Tryz.ntmps144 rfl ?_;refine qe ?_;refine Gr fun w1 hw=>?_;exact⟨congrArg (fun b=>Ending.returned (Value.bool b)) (rfl),ai.mem hw⟩⟩
instance apF{n:Int}:cx Tryz.prog 76 w0 L [.int .i64 n] (.int .i64 (dU n)) (True):=⟨fun aF w hw=>by
 refine cD Tryz.func76 rfl Tryz.ntmps76 rfl ?_;refine dv ?_;refine Gb (fun h0=>?_) fun h0=>?_
 ·
  refine al ?_;refine Gr fun w1 hw=>?_;exact Gf ((by rw[dU,if_neg (by rw[h0];simp)])) hw
 have hf:=te.1 h0;refine aN ?_;refine Gr fun w1 hw=>?_;exact⟨congrArg (fun b=>Ending.returned (Value.int .i64 b)) ((by rw[dU,if_pos h0])),ai.mem hw⟩⟩
instance apG{x:fo}{n:Int}[hx:aT w0 L x]:cx Tryz.prog 268 w0 L [.agg (c8 x), .int .i64 n] (.bool (mu (cR x) n)) (True):=⟨fun aF w hw=>by
 have hx:=hx.h w hw;have BL:cG w x:=⟨hx⟩;refine cQ Tryz.func268 rfl Tryz.ntmps268 rfl ?_;refine Gc ?_;refine bN rfl fun b2=>aA ?_;refine gm oK oK (Gq ?_);refine qI (cl rfl trivial) (av ?_);refine fO rfl rfl rfl (fun hg=>(Ry.yl (aU (az hg rfl)))) (sL rfl rfl rfl (fun hg=>(Ry.yl (aL (o':=0) rfl rfl))) (sL rfl rfl rfl (fun hg=>(Ry.yl (bO (az hg rfl)))) (sL rfl rfl rfl (fun hg=>(Ry.yl (dz (az hg rfl) rfl rfl))) (fO rfl rfl rfl (fun hg=>(Ry.yl (wW (az hg rfl) rfl (xe hg rfl)))) (aah ?_)))));refine fO rfl rfl rfl (fun hg=>cl (dy (az hg rfl) gD) trivial) (av ?_);refine Gr fun w1 hw=>?_;exact⟨congrArg (fun b=>Ending.returned (Value.bool b)) ((by simp only[mu,cR];rw[show decide ((x.gen.toNat:Int)<281474976710656)=decide (x.gen.toNat<281474976710656)from decide_eq_decide.2 oM];rfl)),ai.mem hw⟩⟩
instance apH{b:Sv}{bs:List UInt8}[hb:cP w0 L aQ 1 b bs]:cx Tryz.prog 267 w0 L [b.val] (.bool (ko bs)) (True):=⟨fun aF w hw=>by
 have hb:=hb.h w hw;have zW:Gv w b aQ 1 bs:=⟨hb⟩;have jk:=hb.bd;refine cD Tryz.func267 rfl Tryz.ntmps267 rfl ?_;refine dv ?_;refine bR (X:=Nat) (fun zz=>[(7, .int .i64 (zz:Nat)),(5,b.val),(6, .int .i64 (bs.length:Nat))]) (fun zz=>[]) (fun zz=>zz<=bs.length/\ ∀j x,j<zz->bs[j]? =Option.some x->x=255) (fun zz=>bs.length -zz) 0 ⟨Nat.zero_le _,fun j x hj=>by first|omega|(simp only[];omega)⟩ sb (fun w hw=>ai.mem hw) ?_;rintro i ⟨bg,aH⟩;refine al ?_;refine Gb (fun h0=>?_) fun h0=>?_
 ·
  refine od ?_;obtain⟨y,hy⟩:=get_some (xs:=bs) (i:=i) oM;refine ag (aX rfl rfl i rfl oM) (ag (bL (j:=0) rfl i hy rfl (by decide)) (aN ?_));refine Gb (fun h1=>?_) fun h1=>?_
  ·
   have hz:ko bs=false:=by
    cases hk:ko bs with
    |false=>rfl
    |true=>exact absurd (congrArg UInt8.toNat (Dx.1 hk y (alM hy))) (by intro e;exact h1 (by rw[e];rfl))
   refine al ?_;refine Gr fun w1 hw=>?_;exact Ge (hz.symm) hw
  have Mt:y=255:=avm.1 (show y.toNat=255 by omega);refine al ?_;refine Gi ?_;exact bm (x:=(i)) (i+1) ⟨oF,fun j x hj hx=>if e:j=i then(by subst e;rw[hy]at hx;cases hx;exact Mt)else aH j x oF hx⟩ oF sb (fun w hw=>ai.mem hw)
 obtain rfl:i=bs.length:=by omega
 have hz:ko bs=true:=Dx.2 fun x hx=>by
  obtain⟨j,hj⟩:=ato hx;exact aH j x (ad2.1 hj).1 hj
 refine al ?_;refine Gr fun w1 hw=>?_;exact⟨congrArg (fun b=>Ending.returned (Value.bool b)) (hz.symm),ai.mem hw⟩⟩
instance:eJ Tryz.prog 314 (.agg (eW mq)):=⟨by kernel_rfl⟩
instance apI{n:Int}:cx Tryz.prog 143 w0 L [.int .i64 n] (.int .i64 (kI n)) (True):=⟨fun aF w hw=>by
 have hrr:ot n=true->24<=n/\n<=256:=fun h=>te.1 h;have hrb:0<=dU n/\dU n<=240:=by
  by_cases h:ot n=true
  ·
   have:=hrr h;rw[dU,if_pos h];omega
  rw[dU,if_neg h];omega
 refine cD Tryz.func143 rfl Tryz.ntmps143 rfl ?_;refine aN ?_;refine ag (mK rfl rfl oM oM) (ag (Jq rfl rfl) (aA ?_));refine Gr fun w1 hw=>?_;exact⟨congrArg (fun b=>Ending.returned (Value.int .i64 b)) (rfl),ai.mem hw⟩⟩
instance apJ{r:dE}{n:Int}[hr:aT w0 L r]:cx Tryz.prog 254 w0 L [.agg (eW r), .int .i64 n] (.bool (pB (dH r) n)) (True):=⟨fun aF w hw=>by
 have hr:=hr.h w hw;have ghr:cG w r:=⟨hr⟩;have jk:=hr.1.bd;refine cQ Tryz.func254 rfl Tryz.ntmps254 rfl ?_;refine Gc ?_;refine bN rfl fun b2=>aA ?_;refine gm oK oK (Gq ?_);refine qI (cl rfl trivial) (qe ?_);refine eK rfl rfl rfl (fun hg=>cl (dy (az hg rfl) gD) trivial) (al ?_);refine Gb (fun h0=>?_) fun h0=>?_
 ·
  have hz:pB (dH r) n=false:=by
   cases hk:pB (dH r) n with
   |false=>rfl
   |true=>
    obtain⟨g1,g2,g3,g4⟩:=xK.1 hk;simp only[dH]at g2 g3;omega
  refine al ?_;refine Gr fun w1 hw=>?_;exact Ge (hz.symm) hw
 have g0:dU n≠0/\r.gen.toNat<281474976710656/\(r.at_.xs.length:Int)<=kI n:=⟨by omega,by omega,by omega⟩;refine ba ?_;refine bR (X:=Nat) (fun zz=>[(26, .int .i64 (zz:Nat)),(24,r.at_.sv.val),(25, .int .i64 (r.at_.xs.length:Nat))]) (fun zz=>[aq b2 (eW r) 314]) (fun zz=>zz<=r.at_.xs.length/\ ∀j x,j<zz->r.at_.xs[j]? =Option.some x->zy x=true) (fun zz=>r.at_.xs.length -zz) 0 ⟨Nat.zero_le _,fun j x hj=>by first|omega|(simp only[];omega)⟩ sb (fun w hw=>ai.mem hw) ?_;rintro i ⟨bg,aH⟩;refine al ?_;refine Gb (fun h1=>?_) fun h1=>?_
 ·
  refine od ?_;obtain⟨y,hy⟩:=get_some (xs:=r.at_.xs) (i:=i) oM;refine ag (aX rfl rfl i rfl oM) (ag (bL (j:=0) rfl i hy rfl (by decide)) (iF ?_));refine Gb (fun h2=>?_) fun h2=>?_
  ·
   have hz:pB (dH r) n=false:=by
    cases hk:pB (dH r) n with
    |false=>rfl
    |true=>
     have g:=Dy.1 ((xK.1 hk).2.2.2 y (alM hy));omega
   refine al ?_;refine Gr fun w1 hw=>?_;exact Ge (hz.symm) hw
  have Mu:zy y=true:=Dy.2 ⟨by omega,by omega⟩;refine al ?_;refine Gi ?_;exact bm (x:=(i)) (i+1) ⟨oF,fun j x hj hx=>if e:j=i then(by subst e;rw[hy]at hx;cases hx;exact Mu)else aH j x oF hx⟩ oF sb (fun w hw=>ai.mem hw)
 obtain rfl:i=r.at_.xs.length:=by omega
 have hz:pB (dH r) n=true:=xK.2 ⟨g0.1,g0.2.1,g0.2.2,fun x hx=>by
  obtain⟨j,hj⟩:=ato hx;exact aH j x (ad2.1 hj).1 hj⟩
 refine al ?_;refine Gr fun w1 hw=>?_;exact⟨congrArg (fun b=>Ending.returned (Value.bool b)) (hz.symm),ai.mem hw⟩⟩
instance:eJ Tryz.prog 63 (.agg (cr mr)):=⟨by kernel_rfl⟩
instance apK{c:Cp}[hc:aT w0 L c]:cx Tryz.prog 164 w0 L [.agg (aS c)] (.bool (gy (cv c))) (True):=⟨fun aF w hw=>by
 have hc:=hc.h w hw;have lD:cG w c:=⟨hc⟩;refine cD Tryz.func164 rfl Tryz.ntmps164 rfl ?_;refine Gc ?_;refine bN rfl fun b1=>aai ?_;refine Gr fun w1 hw=>?_;exact⟨congrArg (fun b=>Ending.returned (Value.bool b)) ((by simp only[gy,cv,iq];rfl)),ai.mem hw⟩⟩
instance apL{c:Cp}[hc:aT w0 L c]:bQ Tryz.prog 165 w0 L [.agg (aS c)] (Cp) (fun zz=> .agg (aS zz)) (fun zz=>fz zz::L) (fun zz=>cv zz=cv c) (gU c):=⟨fun aF w hw=>Gk (fun zz=>[fz zz]) hw (by
 have hc:=hc.h w hw;have lD:cG w c:=⟨hc⟩;refine cD Tryz.func165 rfl Tryz.ntmps165 rfl ?_;refine Gc ?_;refine bN rfl fun b1=>bl fun b2=>av ?_;refine bj rfl (by assumption) fun x9 BM=>Gs ?_;refine ag (aJ (v:= .agg (aS x9)) rfl rfl) (ag (aJ (v:= .int .i64 (xH (cv c) c.aV.xs)) rfl rfl) (bl fun b3=>ba ?_));refine eU (cs':=aS (⟨x9.pages,x9.size,x9.blocks,x9.ops,c.off,x9.aV⟩:Cp)) rfl rfl (by show 4<6;decide) (by first|rfl|exact Sv.one _) rfl (av ?_);refine Gr fun w1 hw=>?_;exact⟨(⟨x9.pages,x9.size,x9.blocks,x9.ops,c.off,x9.aV⟩:Cp),rfl,by
  have h9:cv (⟨x9.pages,x9.size,x9.blocks,x9.ops,c.off,x9.aV⟩:Cp)={cv x9 with off:=(cv c).off}:=rfl
  rw[h9,BM];exact abX (cv c),by
  have h9:Mem w [fz x9] _:=ai.mem hw;exact h9⟩)⟩
instance apM{s:Sv}{ss:List Int}[hs:cP w0 L bx 1 s ss]:bQ Tryz.prog 169 w0 L [s.val] (Sv) (fun zz=>zz.val) (fun zz=>own bx 1 zz ss::L) (fun zz=>True) (ss.length<=1000000):=⟨fun aF w hw=>Gk (fun zz=>[own bx 1 zz ss]) hw (by
 have hs:=hs.h w hw;have yb:Gv w s bx 1 ss:=⟨hs⟩;refine cD Tryz.func169 rfl Tryz.ntmps169 rfl ?_;refine av ?_;refine ag (vB Tryz.underlying60 rfl) (Gc ?_);refine Gb (fun h0=>?_) fun h0=>?_
 ·
  have e0:ss=[]:=ati.1 (by have:=hs.ok.nil h0;have:=hs.len;omega);refine al ?_;refine Gr fun w1 hw=>?_;exact⟨Sv.none,rfl,trivial,by rw[e0];exact(ai.mem hw:Mem w [] _).dA bx 1⟩
 refine Gc ?_;refine xo bx fun b5=>Gs ?_;refine kV (s:=⟨false,b5,0,0,0,none⟩) (enc:=bx) (ys:=ss) rfl rfl (by decide) (fun w hw=>jN (s:=s) Tryz.underlying60 (by decide) ((inferInstance:cP _ _ bx 1 s ss).h w hw)) (by simp only[as0];omega) (by simp only[as0];omega) fun s7 zT yc=>?_;refine aA ?_;refine Gr fun w1 hw=>?_;exact⟨s7,rfl,trivial,by rw[atQ]at hw;exact ai.mem hw⟩)⟩
instance apN{v:cn}[hv:aT w0 L v]:bQ Tryz.prog 175 w0 L [.agg (cr v)] (Cp×Sv) (fun zz=> .agg (cr (⟨zz.1,⟨zz.2,v.at_.xs⟩,v.gen,v.last⟩:cn))) (fun zz=>fz zz.1::own bx 1 zz.2 v.at_.xs::L) (fun zz=>cv zz.1=cv v.ae) (gU v.ae/\v.at_.xs.length<=1000000):=⟨fun aF w hw=>Gk (fun zz:Cp×Sv=>[fz zz.1,own bx 1 zz.2 v.at_.xs]) hw (by
 have hv:=hv.h w hw;have D1:cG w v:=⟨hv⟩;obtain⟨gL,gX⟩:=aF;refine cD Tryz.func175 rfl Tryz.ntmps175 rfl ?_;refine Gc ?_;refine bN rfl fun b1=>bl fun b2=>Gc ?_;refine vK [2,5,7,9,1001,1004,5002,5005] [[],[],[1],[],[],[1,2,4],[1,2,4],[1,2,4,5],[1,2,4,5,7],[1,2,4,5,7]] [0,1,3,4,2,6,5,7,8,9] [] [] oK (fun _ hw=>ai.mem hw) oK oK (an rfl (aL (o':=0) rfl rfl) (lJ rfl (hK rfl) (an rfl (aL (o':=6) rfl rfl) (lJ rfl (bO rfl) (Qy rfl (qd rfl (by assumption) fun x5 Mv=>⟨fun _ hw=>ai.mem hw,fun _ hw=>ai.mem hw,?_⟩))))));refine an rfl (aL (o':=0) rfl rfl) (Qy rfl (qd rfl oM fun x8 sq=>⟨fun _ hw=>ai.mem hw,fun _ hw=>ai.mem hw,?_⟩));refine dS rfl (Qq (cs':=cr ({v with ae:=x5}:cn)) rfl rfl (by show 0+6<=9;decide) rfl ⟨fun _ hw=>ai.mem hw,?_⟩)
 refine an rfl (aL (o':=6) rfl rfl) ?_;refine dS rfl (A2 (cs':=cr (⟨x5,⟨x8,v.at_.xs⟩,v.gen,v.last⟩:cn)) rfl rfl (by show 6<9;decide) (by first|rfl|exact Sv.one _) rfl ⟨fun _ hw=>ai.mem hw,?_⟩);refine av ?_;refine Gr fun w1 hw=>?_;exact⟨(x5,x8),rfl,Mv,ai.mem hw⟩)⟩
theorem aeo(b:List UInt8)(w:World):(Instr.build 324 #[(0, .int .i64 ((b.getD 0 0).toNat:Int)),(1, .int .i64 ((b.getD 1 0).toNat:Int)),(2, .int .u64 ((de ((b.drop 2).take (8 -2)):Nat):Int))]).run Tryz.prog w= .ok (.agg (c8 (vW b))) w:=by
 rw[←RX];unfold c8 vW;generalize UInt64.ofNat (de ((b.drop 2).take (8 -2)))=g;kernel_rfl
instance apO{b:Sv}{bs:List UInt8}[hb:cP w0 L aQ 1 b bs]:bQ Tryz.prog 227 w0 L [b.val] (fo) (fun zz=> .tuple #[.agg (c8 zz), .int .i64 ((cE bs).2)]) (fun zz=>own aQ 1 zz.body.sv zz.body.xs::L) (fun zz=>cR zz=(cE bs).1) (True):=⟨fun aF w hw=>Gk (fun zz:fo=>[own aQ 1 zz.body.sv zz.body.xs]) hw (by
 have hb:=hb.h w hw;have zW:Gv w b aQ 1 bs:=⟨hb⟩;have jk:=hb.bd;have ghd:cG w (vW bs):=⟨⟨dJ.nil _ _ _,fun x hx=>by cases hx⟩⟩;have hml:=RW bs;have zX:=K7 bs;have qL:=KL (mv bs);have dL:=abS bs;refine cD Tryz.func227 rfl Tryz.ntmps227 rfl ?_;refine Gc ?_;refine bl fun b2=>dv ?_;refine Gb (fun h0=>?_) fun h0=>?_
 ·
  have hE:cE bs=(km,3):=by rw[cE,if_pos h0]
  refine Gc ?_;refine ag (di (v:= .agg (c8 pz)) rfl (fun w=>by kernel_rfl)) (al ?_);refine Gr fun w1 hw=>?_;exact⟨pz,by rw[hE],by rw[hE];rfl,Mem.dA aQ 1 (ai.mem hw:Mem w [] _)⟩
 have hft:=te.1 h0;have D2:dU bs.length=bs.length -16:=by rw[dU,if_pos h0]
 refine av ?_;refine Gb (fun h1=>?_) fun h1=>?_
 ·
  have hE:cE bs=(km,0):=by rw[cE,if_neg (by rw[h0];simp),if_pos h1]
  refine Gc ?_;refine ag (di (v:= .agg (c8 pz)) rfl (fun w=>by kernel_rfl)) (al ?_);refine Gr fun w1 hw=>?_;exact⟨pz,by rw[hE],by rw[hE];rfl,Mem.dA aQ 1 (ai.mem hw:Mem w [] _)⟩
 refine Gc ?_;refine gm oK oK (av ?_);have Ug:Rg 0 (bs.length -4) bs.length:=⟨by omega⟩;refine bE (Pr rfl rfl (bs.length -4) oM Ug.h.2) (av ?_);have HQ:Rg (bs.length -4) bs.length bs.length:=⟨by omega⟩;refine bE (y7 rfl rfl (bs.length -4) oM HQ.h.1) (av ?_);refine eC (cl (v:= .int .u64 ((de (zx bs):Nat):Int)) rfl (by rw[as6,as9];omega)) (Gs ?_);refine eC (cl (v:= .int .u32 ((po (mv bs):Nat):Int)) rfl trivial) (ag (kE rfl (by simp only[nb];omega)) (aA ?_));refine Gb (fun h2=>?_) fun h2=>?_
 ·
  have hE:cE bs=(km,4):=by rw[cE,if_neg (by rw[h0];simp),if_neg (by rw[h1];simp),if_pos (fun e=>h2 (by rw[e]))]
  refine Gc ?_;refine ag (di (v:= .agg (c8 pz)) rfl (fun w=>by kernel_rfl)) (al ?_);refine Gr fun w1 hw=>?_;exact⟨pz,by rw[hE],by rw[hE];rfl,Mem.dA aQ 1 (ai.mem hw:Mem w [] _)⟩
 have rR: ¬de (zx bs)≠po (mv bs):=fun e=>e oM;refine Gc ?_;refine jE [12,13] [[],[],[],[],[],[],[],[],[],[],[],[],[],[12]] [0,1,2,3,4,5,6,7,8,9,10,11,12,13] [] (fun _ hw=>ai.mem hw) oK oK (an rfl (aU rfl) (an rfl (aX rfl rfl 0 rfl oM) (an rfl (bL (j:=0) rfl 0 (mN (xs:=bs) (i:=0) (d:=0) oM) rfl (by decide)) (an rfl (y8 rfl) (an rfl (aU rfl) (an rfl (aX rfl rfl 1 rfl oM) (an rfl (bL (j:=0) rfl 1 (mN (xs:=bs) (i:=1) (d:=0) oM) rfl (by decide)) (an rfl (y8 rfl) (an rfl (aU rfl) ?_)))))))));have Uh:Rg 2 8 bs.length:=⟨by omega⟩;refine an rfl (FB rfl rfl rfl 2 8 rfl rfl Uh.h.1 Uh.h.2) (zl rfl (cl rfl (by simp;omega)) (an rfl (di (v:= .agg (c8 (vW bs))) rfl (aeo bs)) (dS rfl (Qp fun b6=>⟨fun _ hw=>ai.mem hw,?_⟩))));refine dS rfl (rS rfl rfl ⟨fun _ hw=>ai.mem hw,?_⟩);refine aA ?_;have Ui:Rg 8 10 bs.length:=⟨by omega⟩;refine ag (FB rfl rfl rfl 8 10 rfl rfl Ui.h.1 Ui.h.2) (eC (cl (v:= .int .u64 ((iG bs:Nat):Int)) rfl (by rw[as6];omega)) (ag (kE rfl (by simp only[nb];omega)) (fk ?_)));refine bn rfl rfl rfl (fun hg=>(Ry.yl (gE rfl))) (aA ?_);refine bn rfl rfl rfl (fun hg=>cl (dy (az hg rfl) (dy (az hg rfl) gD)) trivial) (bn rfl rfl rfl (fun hg=>(Ry.yl (jM (az hg rfl)))) (aA ?_));refine Gb (fun h3=>?_) fun h3=>?_
 ·
  have ln:pA bs=false:=by
   rw[K8]at h3
   cases hk:pA bs with
   |false=>rfl
   |true=>
    simp only[pA,anc,decide_eq_true_eq]at hk;rw[hk.2]at h3;simp only[auR,or_false]at h3;omega
  have hE:cE bs=(km,2):=by rw[cE,if_neg (by rw[h0];simp),if_neg (by rw[h1];simp),if_neg rR,if_pos ln]
  refine Gc ?_;refine ag (di (v:= .agg (c8 pz)) rfl (fun w=>by kernel_rfl)) (al ?_);refine Gr fun w1 hw=>?_;exact⟨pz,by rw[hE],by rw[hE];rfl,Mem.dA aQ 1 (ai.mem hw:Mem w [] _)⟩
 have ln:pA bs=true:=by
  rw[K8]at h3;simp only[pA,anc,decide_eq_true_eq];exact⟨by omega,h3.2⟩
 have hmr:(iG bs:Int)<=dU bs.length:=by simp only[pA,anc,decide_eq_true_eq]at ln;exact ln.1
 have ye:(ou bs).length=(mv bs).length -(10+iG bs):=by rw[ou,as6,as9];omega
 have gr:Gv w ((b.sub 1 0 (bs.length -4)).sub 1 (10+iG bs) (mv bs).length) aQ 1 (ou bs):=⟨(hb.sub (lo:=0) (hi:=bs.length -4) oM oM).sub (lo:=10+iG bs) (hi:=(mv bs).length) oM (as4 _)⟩;refine av ?_;have aep:Rg (10+iG bs) ((mv bs).length) (mv bs).length:=⟨by omega⟩;refine ag (y7 rfl rfl (10+iG bs) rfl aep.h.1) (al ?_);refine bR (X:=Nat) (fun zz=>[(69, .int .i64 (zz:Nat)),(0,b.val),(2, .pointer (some ⟨b2,0,none⟩)),(6, .pointer (some ⟨b6,0,none⟩)),(7, .int .i64 (iG bs:Nat)),(67,((b.sub 1 0 (bs.length -4)).sub 1 (10+iG bs) (mv bs).length).val),(68, .int .i64 ((ou bs).length:Nat))]) (fun zz=>[aq b6 (c8 (vW bs)) 324,aq b2 (c8 pz) 324]) (fun zz=>zz<=(ou bs).length/\ ∀j x,j<zz->(ou bs)[j]? =Option.some x->x=0) (fun zz=>(ou bs).length -zz) 0 ⟨Nat.zero_le _,fun j x hj=>by first|omega|(simp only[];omega)⟩ sb (fun w hw=>ai.mem hw) ?_;rintro i ⟨bg,aH⟩;refine al ?_;refine Gb (fun h4=>?_) fun h4=>?_
 ·
  refine od ?_;obtain⟨y,hy⟩:=get_some (xs:=(ou bs)) (i:=i) oM;refine ag (aX rfl rfl i rfl oM) (ag (bL (j:=0) rfl i hy rfl (by decide)) (aN ?_));refine Gb (fun h5=>?_) fun h5=>?_
  ·
   have wm:xJ (ou bs)=false:=by
    cases hk:xJ (ou bs)with
    |false=>rfl
    |true=>exact absurd (congrArg UInt8.toNat (K6.1 hk y (alM hy))) (by intro e;exact h5 (by rw[e];rfl))
   have hE:cE bs=(km,2):=by rw[cE,if_neg (by rw[h0];simp),if_neg (by rw[h1];simp),if_neg rR,if_neg (by rw[ln];simp),if_pos wm]
   refine Gc ?_;refine ag (di (v:= .agg (c8 pz)) rfl (fun w=>by kernel_rfl)) (al ?_);refine Gr fun w1 hw=>?_;exact⟨pz,by rw[hE],by rw[hE];rfl,Mem.dA aQ 1 (ai.mem hw:Mem w [] _)⟩
  have Mt:y=0:=avm.1 (show y.toNat=0 by omega);refine al ?_;refine Gi ?_;exact bm (x:=(i)) (i+1) ⟨oF,fun j x hj hx=>if e:j=i then(by subst e;rw[hy]at hx;cases hx;exact Mt)else aH j x oF hx⟩ oF sb (fun w hw=>ai.mem hw)
 obtain rfl:i=(ou bs).length:=by omega
 have wm:xJ (ou bs)=true:=K6.2 fun x hx=>by
  obtain⟨j,hj⟩:=ato hx;exact aH j x (ad2.1 hj).1 hj
 have hE:cE bs=({vV bs with body:=((bs.drop 10).take (10+iG bs -10))},0):=by rw[cE,if_neg (by rw[h0];simp),if_neg (by rw[h1];simp),if_neg rR,if_neg (by rw[ln];simp),if_neg (by rw[wm];simp)]
 refine av ?_;refine Gb (fun h6=>?_) fun h6=>?_
 ·
  refine Gi ?_;refine al ?_;have Uj:Rg 10 (10+iG bs) bs.length:=⟨by omega⟩;refine ag (FB rfl rfl rfl 10 (10+iG bs) rfl rfl Uj.h.1 Uj.h.2) (bj rfl (by simp only[as6,as9];omega) fun Mw apP=>Gs ?_);refine eU (cs':=c8 (⟨((bs.getD 0 0).toNat:Int),((bs.getD 1 0).toNat:Int),(UInt64.ofNat (de ((bs.drop 2).take (8 -2)))),⟨Mw,((bs.drop 10).take ((10+iG bs) -10))⟩⟩:fo)) rfl rfl (by show 3<4;decide) (by first|rfl|exact Sv.one _) rfl (aN ?_);refine Gr fun w1 hw=>?_;exact⟨⟨((bs.getD 0 0).toNat:Int),((bs.getD 1 0).toNat:Int),UInt64.ofNat (de ((bs.drop 2).take (8 -2))),⟨Mw,((bs.drop 10).take (10+iG bs -10))⟩⟩,by rw[hE],by rw[hE];exact RY bs Mw ((bs.drop 10).take (10+iG bs -10)),ai.mem hw⟩
 have oE:iG bs=0:=by omega
 refine aN ?_;refine Gr fun w1 hw=>?_;exact⟨vW bs,by rw[hE],by rw[hE,K8,oE];simp[vV],Mem.dA aQ 1 (ai.mem hw:Mem w [] _)⟩)⟩
instance apQ{c:Cp}{id:Int}{n:Int}[hc:aT w0 L c]:cx Tryz.prog 303 w0 L [.agg (aS c), .int .i64 id, .int .i64 n] (.bool (ov (cv c) id n)) (bb (cv c)=true/\1<=n/\n<=1000000):=⟨fun aF w hw=>by
 have hc:=hc.h w hw;have lD:cG w c:=⟨hc⟩;obtain⟨hk,BN,wo⟩:=aF;have dX:=iq c.blocks.xs;have iU:=mj.1 (fJ.1 hk).1;simp only[cv,dX]at iU;have D3:0<=((n -1)/c.pages):=avb oM oM;have Jj:((n -1)/c.pages)<=n -1:=Int.ediv_le_self _ oM;have oE:0<=((n -1)%c.pages):=ave _ oM;have nN:((n -1)%c.pages)<c.pages:=avj _ oM;have qp:=zw (c:=c) (b:=((n -1)/c.pages));have Mx:(c.blocks.xs.getD ((n -1)/c.pages).toNat qW).used=(ak (cv c) ((n -1)/c.pages)).used:=congrArg BV.used qp;refine s9 Tryz.func303 rfl Tryz.ntmps303 rfl ?_;refine Gc ?_;refine bN rfl fun b3=>aA ?_;refine gm oK oK (av ?_);refine bE (mK rfl rfl oM oM) (av ?_);refine bE (AB rfl rfl oM oM) (QB ?_);refine bn rfl rfl rfl (fun hg=>(Ry.yl (aX (az hg rfl) (az hg rfl) (((n -1)/c.pages).toNat) (by simp only[Z0,Z1,Z2,Z3,Z4,Z5,Z6,Z7,Z8,Z9]at hg;omega) (by simp only[Z0,Z1,Z2,Z3,Z4,Z5,Z6,Z7,Z8,Z9]at hg;omega)))) (bn rfl rfl rfl (fun hg=>(Ry.yl (aL (az hg rfl) rfl))) (bn rfl rfl rfl (fun hg=>(Ry.yl (bL (j:=1) (az hg rfl) (((n -1)/c.pages).toNat) (mN (xs:=c.blocks.xs) (i:=((n -1)/c.pages).toNat) (d:=qW) (by simp only[Z0,Z1,Z2,Z3,Z4,Z5,Z6,Z7,Z8,Z9]at hg;omega)) rfl (by decide)))) (al ?_)));refine Gb (fun h0=>?_) fun h0=>?_
 ·
  have hz:ov (cv c) id n=false:=by
   cases uW:lf (cv c) (n -1)with
   |false=>rw[ov,uW];rfl
   |true=>
    obtain⟨g1,g2,g3⟩:=mR.1 uW;change 2<=((n -1)/c.pages)at g1;change((n -1)/c.pages)<((jl c.blocks.xs).length:Int)at g2;change((n -1)%c.pages)<(ak (cv c) ((n -1)/c.pages)).used at g3;rw[dX]at g2;omega
  refine al ?_;refine Gr fun w1 hw=>?_;exact Ge (hz.symm) hw
 have bX:lf (cv c) (n -1)=true:=mR.2 ⟨show 2<=((n -1)/c.pages) by omega,by simp only[cv,dX];omega,show((n -1)%c.pages)<(ak (cv c) ((n -1)/c.pages)).used by omega⟩;obtain⟨B,hB⟩:=get_some (xs:=c.blocks.xs) (i:=((n -1)/c.pages).toNat) oM;have tG:Mb B c.blocks:=⟨List.mem_of_getElem? hB⟩;have fg:bv B=ak (cv c) ((n -1)/c.pages):=by rw[←qp];simp[List.getD,hB]
 have gM:=fm.1 ((fJ.1 hk).2.2.2.2 (bv B) (alM (nH hB)));have iT:=pt B.pages.xs;have D4:(B.pages.xs.length:Int)=c.pages:=by have:=gM.1;simp only[bv,cv,iT]at this;exact this
 obtain⟨y,hy⟩:=get_some (xs:=B.pages.xs) (i:=((n -1)%c.pages).toNat) oM;have My:Mb y B.pages:=⟨List.mem_of_getElem? hy⟩;have rh:bK (cv c) (n -1)=y.xs:=by
  show(ak (cv c) ((n -1)/c.pages)).pages.getD ((n -1)%c.pages).toNat []=y.xs;rw[←fg];simp[bv,List.getD,qX hy]
 refine av ?_;refine ag (aX rfl rfl (((n -1)/c.pages).toNat) oM oM) (ag (aL rfl rfl) (ag (bL (j:=0) rfl (((n -1)/c.pages).toNat) hB rfl (by decide)) ?_));have apR:Mb B _:=⟨List.mem_of_getElem? hB⟩;refine Gs ?_;refine ag (aX rfl rfl (((n -1)%c.pages).toNat) oM oM) (ag (bL (j:=0) rfl (((n -1)%c.pages).toNat) hy rfl (by decide)) ?_);have apS:Mb y _:=⟨List.mem_of_getElem? hy⟩;refine bj rfl trivial fun qq zY=>?_;have e1:qq.kind=(cE y.xs).1.kind:=congrArg PV.kind zY;have e2:qq.id=(cE y.xs).1.id:=congrArg PV.id zY;refine Gs ?_;refine ag (aJ (v:= .agg (c8 qq)) rfl rfl) (ag (aJ (v:= .int .i64 ((cE y.xs).2)) rfl rfl) (bl fun b9=>QC ?_));refine Gr fun w1 hw=>?_;exact⟨congrArg (fun b=>Ending.returned (Value.bool b)) ((by rw[ov,bX,rh,G6,←e1,←e2];rfl)),ai.mem hw⟩⟩
def oG(n:Int):Value:= .int .i64 n
def rk(_:Unit):Value:= .agg #[]
instance:DV oG:=⟨fun h=>by simpa[oG]using h⟩
instance:DU Tryz.prog 3:=⟨Maps.int_keyed Tryz.underlying3⟩
instance:BI Tryz.prog 318 3 319:=⟨Tryz.underlying318⟩
instance:eJ Tryz.prog 319 (.agg #[]):=⟨by kernel_rfl⟩
instance:gk (#[]:Array Value) 0:=⟨rfl,by simp⟩
theorem Mz{n:Int}(h: -9223372036854775808<=n/\n<=9223372036854775807): ∃l,keyOf Tryz.prog 3 (oG n)=some l:=⟨_,Maps.keyOf_int_mk Tryz.underlying3 (by simp[Lit.wf,IntKind.min,IntKind.max,IntKind.signed,IntKind.bits];omega)⟩
instance apT{c:Cp}{t:Sv}{ts:List Int}[hc:aT w0 L c][ht:cP w0 L bx 1 t ts]:cx Tryz.prog 259 w0 L [.agg (aS c),t.val] (.bool (vY (cv c) ts)) (bb (cv c)=true/\ ∀x∈ts,0<=x/\x<=65535):=⟨fun aF w hw=>by
 have hc:=hc.h w hw;have ht:=ht.h w hw;have lD:cG w c:=⟨hc⟩;have oH:Gv w t bx 1 ts:=⟨ht⟩;obtain⟨hk,pL⟩:=aF;have jk:=ht.bd;refine cQ Tryz.func259 rfl Tryz.ntmps259 rfl ?_;refine Gc ?_;refine bN rfl fun b2=>av ?_;refine aed oG rk rfl fun yh=>ba ?_;refine bR (X:=Nat) (fun zz=>[(15, .int .i64 (zz:Nat)),(5, .map (some yh)),(2, .pointer (some ⟨b2,0,none⟩)),(13,t.val),(14, .int .i64 (ts.length:Nat))]) (fun zz=>[omap Tryz.prog 3 oG rk yh (kJ ts zz),aq b2 (aS c) 59]) (fun zz=>zz<=ts.length/\ ∀j,j<zz->r9 (cv c) ts j=true) (fun zz=>ts.length -zz) 0 ⟨Nat.zero_le _,fun j hj=>by first|omega|(simp only[];omega)⟩ sb (fun w hw=>by
  rw[←R5];exact ai.mem hw) ?_
 rintro i ⟨bg,aH⟩;refine al ?_;refine Gb (fun h0=>?_) fun h0=>?_
 ·
  obtain⟨y,hy⟩:=get_some (xs:=ts) (i:=i) oM;have hyr:=pL y (alM hy);have pM:=qk hy;have yi:=Mz (n:=y) oM;refine aA ?_;refine ag (aX rfl rfl i rfl oM) (ag (bL (j:=0) rfl i hy rfl (by decide)) (ba ?_));refine Gb (fun h1=>?_) fun h1=>?_
  ·
   subst h1;have bD:r9 (cv c) ts i=true:=by rw[r9,pM];rfl
   refine al ?_;refine Gi ?_;exact bm (x:=(i)) (i+1) ⟨oF,fun j hj=>if e:j=i then e▸bD else aH j oF⟩ oF sb (fun w hw=>by
    rw[R6 hy];exact ai.mem hw)
  refine al ?_;refine ag (Mk (dk:=oG) (eP:=rk) (f:=kJ ts i) (v:=y) (z:=()) rfl rfl yi) (Gs ?_);refine ag (aJ (v:= .agg #[]) rfl rfl) (ag (aJ (v:= .bool ((kJ ts i y).isSome)) rfl rfl) (bl fun b8=>aN ?_));refine bn rfl rfl rfl (fun hg=>(Ry.yl (gE rfl))) (aA ?_);refine bn rfl rfl rfl (fun hg=>cl (dy (az hg rfl) (dy (az hg rfl) (dy (az hg rfl) gD))) ⟨hk,by omega,by omega⟩) (bn rfl rfl rfl (fun hg=>(Ry.yl (jM (az hg rfl)))) (aA ?_));refine Gb (fun h2=>?_) fun h2=>?_
  ·
   have hz:vY (cv c) ts=false:=by
    cases uW:vY (cv c) ts with
    |false=>rfl
    |true=>
     have g:=Dz.1 uW i oM;rw[r9,pM]at g;rw[DA]at h2;simp only[aui,anc,decide_eq_true_eq,at0,avT,decide_eq_false_iff_not]at g h2;rcases g with g|g
     ·
      exact absurd g h1
     rcases h2 with h2|h2
     ·
      exact absurd h2.2 g.1
     rw[g.2]at h2;cases h2
   refine al ?_;refine Gr fun w1 hw=>?_;exact Ge (hz.symm) hw
  have bD:r9 (cv c) ts i=true:=by
   rw[DA]at h2;rw[r9,pM];simp only[aui,anc,decide_eq_true_eq,at0,avT,decide_eq_false_iff_not]at h2⊢;exact .inr ⟨fun hm=>h2.1 ⟨h1,hm⟩,h2.2⟩
  have fv:=R7 hy h1;refine al ?_;refine ag (di (v:= .agg #[]) rfl (fun w=>by kernel_rfl)) (Ml (dk:=oG) (eP:=rk) (v:=y) (u:=()) rfl rfl rfl yi (al ?_));refine Gi ?_;exact bm (x:=(i)) (i+1) ⟨oF,fun j hj=>if e:j=i then e▸bD else aH j oF⟩ oF sb (fun w hw=>by
   rw[←fv];exact ai.mem hw)
 obtain rfl:i=ts.length:=by omega
 have hz:vY (cv c) ts=true:=Dz.2 fun j hj=>aH j hj;refine al ?_;refine Gr fun w1 hw=>?_;exact⟨congrArg (fun b=>Ending.returned (Value.bool b)) (hz.symm),ai.mem hw⟩⟩
instance:eJ Tryz.prog 402 (.agg (bH ei)):=⟨by kernel_rfl⟩
theorem aeq(u v:Int)(b:Bool)(w:World):(Instr.build 402 #[(1, .int .i64 u),(2, .int .i64 v),(3, .bool b)]).run Tryz.prog w= .ok (.agg (bH ⟨0,u,v,b⟩)) w:=by
 unfold bH;kernel_rfl
instance apU{c:Cp}{l:Sl (Sl Int)}[hc:aT w0 L c][hl:aT w0 L l]:bQ Tryz.prog 326 w0 L [.agg (aS c),l.sv.val] (Sv) (fun zz=>zz.val) (fun zz=>own bH 4 zz (jo (cv c) (ay l.xs))::L) (fun zz=>True) (xL (cv c) (ay l.xs)):=⟨fun aF w hw=>Gk (fun zz=>[own bH 4 zz (jo (cv c) (ay l.xs))]) hw (by
 have hc:=hc.h w hw;have hl:=hl.h w hw;have lD:cG w c:=⟨hc⟩;have sr:cG w l:=⟨hl⟩;obtain⟨⟨hk,oq⟩,mC,ja⟩:=aF;have jk:=hl.1.bd;have dX:=iq c.blocks.xs;have pJ:(cv c).blocks.length=c.blocks.xs.length:=dX;have iU:=mj.1 (fJ.1 hk).1;simp only[cv,dX]at iU;have og:=Bm (cv c) (ay l.xs);rw[pJ]at og;have ye:(List.replicate (c.blocks.xs.length -2) ei).length=c.blocks.xs.length -2:=List.length_replicate;refine cQ Tryz.func326 rfl Tryz.ntmps326 rfl ?_;refine Gc ?_;refine bN rfl fun b2=>ba ?_;refine ui (enc:=bH) (n:=(c.blocks.xs.length -2)) (cap:=(c.blocks.xs.length -2)) ei rfl rfl rfl oM oM oM oM oM fun lW=>ba ?_;refine bR (X:=Nat×List aB) (fun zz=>[(22, .int .i64 (zz.1:Nat)),(5,(⟨false,lW,0,c.blocks.xs.length -2,c.blocks.xs.length -2,none⟩:Sv).val),(1,l.sv.val),(2, .pointer (some ⟨b2,0,none⟩)),(21, .int .i64 ((List.replicate (c.blocks.xs.length -2) ei).length:Nat))]) (fun zz=>[own bH 4 ⟨false,lW,0,c.blocks.xs.length -2,c.blocks.xs.length -2,none⟩ zz.2,aq b2 (aS c) 59]) (fun zz=>zz.1<=c.blocks.xs.length -2/\zz.2.length=c.blocks.xs.length -2/\zz.2.take zz.1=(kt (cv c) (ay l.xs) 0).take zz.1) (fun zz=>c.blocks.xs.length -2 -zz.1) (0,List.replicate (c.blocks.xs.length -2) ei) ⟨Nat.zero_le _,by simp,by simp⟩ sb (fun w hw=>ai.mem hw) ?_;rintro⟨i,zs⟩ ⟨bg,aH,bA⟩;dsimp only;simp only at bg aH bA;refine al ?_;refine Gb (fun h0=>?_) fun h0=>?_
 ·
  obtain⟨B,hB⟩:=get_some (xs:=c.blocks.xs) (i:=i+2) oM;have tG:Mb B c.blocks:=⟨List.mem_of_getElem? hB⟩;obtain⟨z,hz⟩:=get_some (xs:=zs) (i:=i) oM;have A5:(zs.set i (⟨0,B.used,B.aR,B.bad⟩:aB)).take (i+1)=(kt (cv c) (ay l.xs) 0).take (i+1):=by
   have e1:=G2 (f:=id) (z':=(⟨0,B.used,B.aR,B.bad⟩:aB)) hz;simp only[List.map_id]at e1;rw[e1,bA,atf,ab8,atg,aun oM,atJ,show ak (cv c) ((i:Int)+2)=bv B from Ld (i:=i+2) hB];rfl
  refine fk ?_;refine ag (aX rfl rfl (i+2) rfl oM) (ag (gQ rfl (i+2) hB rfl) ?_);have Uf:Mb B c.blocks:=⟨List.mem_of_getElem? hB⟩;refine bl fun b7=>s8 ?_;refine ag (di (v:= .agg (bH (⟨0,B.used,B.aR,B.bad⟩:aB))) rfl (aeq B.used B.aR B.bad)) (ag (aX rfl rfl i rfl oM) (kW (s:=⟨false,lW,0,c.blocks.xs.length -2,c.blocks.xs.length -2,none⟩) (n:=4) (k:=i) (j:=0) (a:=z) (a':=(⟨0,B.used,B.aR,B.bad⟩:aB)) (xs:=zs) (enc:=bH) (c:=4) (v:= .agg (bH (⟨0,B.used,B.aR,B.bad⟩:aB))) oK rfl rfl rfl hz (bu.one (enc:=bH) (c:=4) _) rfl (by decide) (by rfl) (al ?_)));refine Gi ?_;exact bm (x:=(i,zs)) (i+1,zs.set i (⟨0,B.used,B.aR,B.bad⟩:aB)) ⟨oF,by rw[atC];exact aH,A5⟩ (by simp only;omega) sb (fun w hw=>ai.mem hw)
 obtain rfl:i=zs.length:=by omega
 rw[atr,ath (by rw[og];omega)]at bA;subst bA;refine Gc ?_;refine Ub oG rk fun HR=>ba ?_;refine bR (X:=Nat) (fun zz=>[(45, .int .i64 (zz:Nat)),(5,(⟨false,lW,0,c.blocks.xs.length -2,c.blocks.xs.length -2,none⟩:Sv).val),(8, .map (some HR)),(2, .pointer (some ⟨b2,0,none⟩)),(43,l.sv.val),(44, .int .i64 (l.xs.length:Nat))]) (fun zz=>[omap Tryz.prog 3 oG rk HR (kJ (ay l.xs) (ay (l.xs.take zz)).length),own bH 4 ⟨false,lW,0,c.blocks.xs.length -2,c.blocks.xs.length -2,none⟩ (kt (cv c) (ay l.xs) (ay (l.xs.take zz)).length),aq b2 (aS c) 59]) (fun zz=>zz<=l.xs.length) (fun zz=>l.xs.length -zz) 0 (atv _) sb (fun w hw=>by
  have e0:(ay (l.xs.take 0)).length=0:=by simp[ay]
  simp only[e0];rw[←R5];exact ai.mem hw) ?_
 rintro a ha1;refine al ?_;refine Gb (fun h1=>?_) fun h1=>?_
 ·
  obtain⟨x,hx⟩:=get_some (xs:=l.xs) (i:=a) oM;have Uk:Mb x l:=⟨List.mem_of_getElem? hx⟩;have eA:=(hl.2 x Uk.h).1.bd;refine Gc ?_;refine ag (aX rfl rfl a rfl oM) (ag (bL (j:=0) rfl a hx rfl (by decide)) ?_);have apV:Mb x _:=⟨List.mem_of_getElem? hx⟩;refine ba ?_;refine bR (X:=Nat) (fun zz=>[(51, .int .i64 (zz:Nat)),(5,(⟨false,lW,0,c.blocks.xs.length -2,c.blocks.xs.length -2,none⟩:Sv).val),(8, .map (some HR)),(2, .pointer (some ⟨b2,0,none⟩)),(43,l.sv.val),(44, .int .i64 (l.xs.length:Nat)),(45, .int .i64 (a:Nat)),(49,x.sv.val),(50, .int .i64 (x.xs.length:Nat))]) (fun zz=>[omap Tryz.prog 3 oG rk HR (kJ (ay l.xs) ((ay (l.xs.take a)).length+zz)),own bH 4 ⟨false,lW,0,c.blocks.xs.length -2,c.blocks.xs.length -2,none⟩ (kt (cv c) (ay l.xs) ((ay (l.xs.take a)).length+zz)),aq b2 (aS c) 59]) (fun zz=>zz<=x.xs.length) (fun zz=>x.xs.length -zz) 0 (atv _) sb (fun w hw=>ai.mem hw) ?_;rintro j jJ;refine al ?_;refine Gb (fun h2=>?_) fun h2=>?_
  ·
   obtain⟨y,hy⟩:=get_some (xs:=x.xs) (i:=j) oM;have BO:=ab7 hx hy;have MA:=ja y (alM BO);have pM:=qk BO;have yi:=Mz (n:=y) oM;refine Gc ?_;refine ag (aX rfl rfl j rfl oM) (ag (bL (j:=0) rfl j hy rfl (by decide)) (av ?_));refine ag (Mk (dk:=oG) (eP:=rk) (f:=kJ (ay l.xs) ((ay (l.xs.take a)).length+j)) (v:=y) (z:=()) rfl rfl yi) (Gs ?_);refine ag (aJ (v:= .agg #[]) rfl rfl) (ag (aJ (v:= .bool ((kJ (ay l.xs) ((ay (l.xs.take a)).length+j) y).isSome)) rfl rfl) (bl fun jZ=>iF ?_));refine Gb (fun h3=>?_) fun h3=>?_
   ·
    have uX:nI (ay l.xs) ((ay (l.xs.take a)).length+j)=false:=by
     rw[nI,pM];rw[DA]at h3;rcases h3 with h|h
     ·
      simp[h]
     simp only[decide_eq_true_eq]at h;simp[h.2]
    have hsk:kJ (ay l.xs) (((ay (l.xs.take a)).length+j)+1)=kJ (ay l.xs) ((ay (l.xs.take a)).length+j):=by
     rw[DA]at h3;rcases h3 with h|h
     ·
      exact R6 (h▸BO)
     exact ab5 BO (by simpa using h)
    refine al ?_;refine Gi ?_;exact bm (x:=(j)) (j+1) oF oF sb (fun w hw=>by
     rw[←auB,hsk,ab4 uX];exact ai.mem hw)
   have mM:y≠0:=h3.1;obtain⟨b1,b2,b3,b4⟩:=MA.resolve_left mM;change 2<=((y -1)/c.pages)at b3;change((y -1)/c.pages)<((jl c.blocks.xs).length:Int)at b4;rw[dX]at b4;have uX:nI (ay l.xs) ((ay (l.xs.take a)).length+j)=true:=by
    rw[nI,pM];have h9:=h3.2;rw[DA]at h9;simp only[decide_eq_false_iff_not]at h9;simp only[anc,decide_eq_true_eq,at0,avT,decide_eq_false_iff_not];exact⟨mM,fun hm=>h9 ⟨mM,hm⟩⟩
   have fv:=R7 BO mM;have zg:=Bm (cv c) (ay l.xs) ((ay (l.xs.take a)).length+j);rw[pJ]at zg;obtain⟨z,hz⟩:=get_some (xs:=kt (cv c) (ay l.xs) ((ay (l.xs.take a)).length+j)) (i:=(((y -1)/c.pages) -2).toNat) oM;have rl:=ab6 uX (i:=(((y -1)/c.pages) -2).toNat) (by rw[pM];show((y -1)/c.pages)=_;omega) hz;have rj:=ab9 hz;have bX:=(ad2.1 BO).1;refine al ?_;refine ag (di (v:= .agg #[]) rfl (fun w=>by kernel_rfl)) (Ml (dk:=oG) (eP:=rk) (v:=y) (u:=()) rfl rfl rfl yi (ba ?_));refine ag (mK rfl rfl oM oM) (Gs ?_);refine ag (aX rfl rfl ((((y -1)/c.pages) -2).toNat) oM oM) (ag (aL rfl rfl) (ag (bL (j:=0) rfl ((((y -1)/c.pages) -2).toNat) hz rfl (by decide)) (Gs ?_)));refine ag (aX rfl rfl ((((y -1)/c.pages) -2).toNat) oM oM) (ag (aL rfl rfl) (kW (s:=⟨false,lW,0,c.blocks.xs.length -2,c.blocks.xs.length -2,none⟩) (n:=1) (k:=(((y -1)/c.pages) -2).toNat) (j:=0) (a:=z) (a':={z with live:=z.live+1}) (xs:=(kt (cv c) (ay l.xs) ((ay (l.xs.take a)).length+j))) (enc:=bH) (c:=4) (v:= .int .i64 (z.live+1)) oK rfl rfl rfl hz (by simp[Value.cells,Value.oneCell']) (by rfl) (by decide) (by rfl) (al ?_)))
   refine Gi ?_;exact bm (x:=(j)) (j+1) oF oF sb (fun w hw=>by
    rw[←auB,←fv,rl];exact ai.mem hw)
  obtain rfl:j=x.xs.length:=by omega
  refine al ?_;refine Gi ?_;exact bm (x:=(a)) (a+1) oF oF sb (fun w hw=>by
   rw[Sh hx,af0];exact ai.mem hw)
 obtain rfl:a=l.xs.length:=by omega
 rw[atr];refine av ?_;refine Gr fun w1 hw=>?_;exact⟨⟨false,lW,0,c.blocks.xs.length -2,c.blocks.xs.length -2,none⟩,rfl,trivial,by rw[jo];exact ai.mem hw⟩)⟩
end Go.Proofs.YtkggjjnhnjjokaaGreatDoor
namespace Go.ax
open Go.RowKit
section
variable {P:Program} {N:cc} {w0:World} {env:Env} {L:List aj} {d:Option Tmp} {ty:TypeId} {ps:String} {af:Array Edge} {gd:Option (Nat×Bool)}
class nh(w0:World)(L:List aj)(b:Nat)(cs:outParam (Array Value))(T:outParam TypeId):Prop where
 h: ∀w,Mem w0 L w->w.heap[b]? =some (.cells cs T (0,0))
class su(w0:World)(b:Nat)(cs:outParam (Array Value))(T:outParam TypeId):Prop where
 h:w0.heap[b]? =some (.cells cs T (0,0))
instance (priority:=high) nh.has {b i:Nat}{cs:Array Value}{T:TypeId}[q:Has L b cs T i]:nh w0 L b cs T:=⟨fun w hw=>hw.block q.h⟩
instance nh.BP{b:Nat}{cs:Array Value}{T:TypeId}[q:su w0 b cs T]:nh w0 L b cs T:=⟨fun w hw=>by
 have bc:b<w0.heap.size:=by
  rcases as3 b w0.heap.size with h|h
  ·
   exact h
  have:=q.h;simp[auE h]at this
 rw[hw.below.block b bc];exact q.h⟩
theorem nh.cell{b:Nat}{cs:Array Value}{T:TypeId}(q:nh w0 L b cs T){w:World}(hw:Mem w0 L w)(o:Nat):w.cell? ⟨b,o,none⟩=cs[o]? :=by
 simp[World.cell?,q.h w hw]
theorem oI{t:TypeId}{x:Operand}{b o:Nat}{cs:Array Value}{T:TypeId}{v:Value}(hx:ev env x=some (.pointer (some ⟨b,o,none⟩)))[ht:fW P t][hi:nh w0 L b cs T][hc:cg cs o v]:
  Ry P N w0 env L ⟨d, .load t x,ty,ps,af,gd⟩ v:=Az ht hx fun w hw=>by rw[hi.cell hw];exact hc.h
theorem aer{t:TypeId}{x:Operand}{b o n:Nat}{cs sub:Array Value}{T:TypeId}(hx:ev env x=some (.pointer (some ⟨b,o,none⟩)))[ht:fE P t n][hi:nh w0 L b cs T][hs:nT cs o n sub]:
  Ry P N w0 env L ⟨d, .load t x,ty,ps,af,gd⟩ (.agg sub):=CK ht hx hs.size fun w hw j hj=>by rw[Addr.ie,hi.cell hw];exact hs.h j hj
end
section
variable {w0:World} {L:List aj}
theorem BQ{w0 w:World}{L R1 R2 R3:List aj}{e1 e2 e3:aj}{i j k:Nat}(h1:L[i]? =some e1)(d1:L.eraseIdx i=R1)(h2:R1[j]? =some e2)(d2:R1.eraseIdx j=R2)(h3:R2[k]? =some e3)(d3:R2.eraseIdx k=R3)(h:Mem w0 L w):Mem w0 (e1::e2::e3::R3) w:=by
 subst d1;subst d2;subst d3;exact h.perm ((nX h1).trans (((nX h2).trans ((nX h3).cons _)).cons _))
theorem aes{w0 w:World}{L R1 R2 R3 R4:List aj}{e1 e2 e3 e4:aj}{i j k l:Nat}(h1:L[i]? =some e1)(d1:L.eraseIdx i=R1)(h2:R1[j]? =some e2)(d2:R1.eraseIdx j=R2)(h3:R2[k]? =some e3)(d3:R2.eraseIdx k=R3)(h4:R3[l]? =some e4)(d4:R3.eraseIdx l=R4)(h:Mem w0 L w):Mem w0 (e1::e2::e3::e4::R4) w:=by
 subst d1;subst d2;subst d3;subst d4;exact h.perm ((nX h1).trans (((nX h2).trans (((nX h3).trans ((nX h4).cons _)).cons _)).cons _))
end
variable {w0:World}{L:List aj}
instance (priority:=low) Hd.tail{e:aj}{s:Sv}{α:Type}{enc:α->Array Value}{c:Nat}{xs:List α}[q:Hd w0 L s enc c xs]:Hd w0 (e::L) s enc c xs:=⟨fun w hw=>q.h w (hw.sub (atO _ _))⟩
instance (priority:=low) aT.tail{e:aj}{τ:Type}[Deep τ]{a:τ}[q:aT w0 L a]:aT w0 (e::L) a:=⟨fun w hw=>q.h w (hw.sub (atO _ _))⟩
theorem aet{P:Program}{N:cc}{env:Env}{α:Type}{enc:α->Array Value}{c n:Nat}{t e:TypeId}{cL:Nat}{z:Value}{x y:Operand}{d:Option Tmp}{ty:TypeId}{ps:String}{af:Array Edge}{gd:Option (Nat×Bool)}{k k':IntKind}{ix iy:Int}[he:bu enc c][ht:fH P t e c cL][hz:eJ P e z](x0:α)(h0:enc x0=z.cells)(hx:ev env x=some (.int k ix))(hy:ev env y=some (.int k' iy))(ex:ix=(n:Int))(ey:iy=(n:Int))(hb:cL*n<=281474976710656)(jO:n<=140737488355328):
  ∀a,cO N env a->vE P ⟨d, .makeSlice t x y,ty,ps,af,gd⟩ a.eval (xC enc c n (List.replicate n x0)):=fun a ha w0 w L hw=>by
 subst ex ey;obtain⟨w',h1,h2⟩:=JO ht hz (k:=k) (k':=k') (n:=n) x0 h0 (as4 _) hb jO w;exact⟨w.heap.size,w',by simp only[execOp,ha.ev hx,ha.ev hy,Sem.run_bind,h1,Result.andThen,Sem.run_pure],hw.call h2⟩
def uY(f:FuncId):Array Value:= #[.func (.func f) #[] #[]]
instance:bu uY 1:=⟨fun _=>rfl,fun _=>by simp[uY,Value.oneCell']⟩
instance (f:FuncId):cg (uY f) 0 (.func (.func f) #[] #[]):=⟨rfl⟩
class tH(P:Program)(w0:World)(L:List aj)(f:FuncId)(lV:Array Value){α:outParam Type}(enc:outParam (α->Array Value))(R:outParam (α->Bool)):Prop where
 fn:aI P f
 h: ∀w,Mem w0 L w-> ∀x,Calls P f ((Value.agg (enc x)::lV.toList).toArray) w fun e w'=>e= .returned (.bool (R x))/\Mem w [] w'
theorem tH.at{P:Program}{w0:World}{L:List aj}{f:FuncId}{lV:Array Value}{α:Type}{enc:α->Array Value}{R:α->Bool}(q:tH P w0 L f lV enc R){w:World}(hw:Mem w0 L w):tH P w [] f lV enc R:=
 ⟨q.fn,fun w1 h1 x=>q.h w1 (by simpa using hw.call h1) x⟩
end Go.ax
namespace Go.Proofs.YtkggjjnhnjjokaaGreatDoor
open Go.ax Go.Kb Go.RowKit
instance:eJ Tryz.prog 432 (.agg (fP abN)):=⟨by kernel_rfl⟩
theorem MB(x:aB)(p:Int)(w:World):(Instr.build 432 #[(0, .agg (bH x)),(1, .int .i64 p)]).run Tryz.prog w= .ok (.agg (fP ⟨x,p⟩)) w:=by
 obtain⟨a,b,c,d⟩:=x;unfold fP bH;kernel_rfl
variable {w0:World}{L:List aj}
instance apW{a:Int}:cx Tryz.prog 350 w0 L [.int .i64 a] (.bool false) (True):=⟨fun aF w hw=>by
 refine cD Tryz.func350 rfl Tryz.ntmps350 rfl ?_;refine fk ?_;refine Gr fun w1 hw=>?_;exact⟨congrArg (fun b=>Ending.returned (Value.bool b)) ((by simp)),ai.mem hw⟩⟩
instance apX{a:Int}{b:Int}:cx Tryz.prog 349 w0 L [.int .i64 a, .int .i64 b] (.int .i64 (zB a b)) (True):=⟨fun aF w hw=>by
 refine cQ Tryz.func349 rfl Tryz.ntmps349 rfl ?_;refine Gd ?_;refine gn rfl (fun h0=>?_) (fun h0=>?_)
 ·
  exfalso;simp at h0
 replace h0:=bz h0;refine al ?_;refine gn rfl (fun h2=>?_) (fun h2=>?_)
 ·
  exfalso;simp at h2
 replace h2:=bz h2;refine aN ?_;refine Gb (fun h3=>?_) fun h3=>?_
 ·
  refine al ?_;refine Gr fun w1 hw=>?_;exact Gf ((by rw[zB,if_pos oM])) hw
 refine aN ?_;refine Gb (fun h4=>?_) fun h4=>?_
 ·
  refine al ?_;refine Gr fun w1 hw=>?_;exact Gf ((by rw[zB,if_neg oM,if_pos oM])) hw
 refine al ?_;refine Gr fun w1 hw=>?_;exact⟨congrArg (fun b=>Ending.returned (Value.int .i64 b)) ((by rw[zB,if_neg oM,if_neg oM])),ai.mem hw⟩⟩
theorem Ul(w:World)(b:jF):Calls Tryz.prog 335 #[.agg (fP b)] w fun e w'=>e= .returned (.bool (mT b.pages b.w))/\Mem w [] w':=by
 refine cD Tryz.func335 rfl Tryz.ntmps335 rfl ?_;refine Gc ?_;refine bN rfl fun b1=>fk ?_;refine gG rfl rfl rfl (fun hg=>(Ry.yl (aL (o':=1) (az hg rfl) rfl))) (dv ?_);refine Gr fun w1 hw=>?_;exact Ge (by simp only[mT,Bool.and_assoc]) hw
instance apY{b:jF}:cx Tryz.prog 335 w0 L [.agg (fP b)] (.bool (mT b.pages b.w)) (True):=⟨fun hp w hw=>Ul w b⟩
theorem Um(w:World)(b:jF):Calls Tryz.prog 333 #[.agg (fP b)] w fun e w'=>e= .returned (.bool (my b.w))/\Mem w [] w':=by
 refine cD Tryz.func333 rfl Tryz.ntmps333 rfl ?_;refine Gc ?_;refine bN rfl fun b1=>fk ?_;refine gG rfl rfl rfl (fun hg=>(Ry.yl (aL (o':=0) (az hg rfl) rfl))) (aN ?_);refine gG rfl rfl rfl (fun hg=>(Ry.yl (aL (o':=1) (az hg rfl) rfl))) (aN ?_);refine Gr fun w1 hw=>?_;exact Ge (by simp only[my,Bool.and_assoc]) hw
instance apZ{b:jF}:cx Tryz.prog 333 w0 L [.agg (fP b)] (.bool (my b.w)) (True):=⟨fun hp w hw=>Um w b⟩
theorem aeu(w:World)(b:jF):Calls Tryz.prog 340 #[.agg (fP b)] w fun e w'=>e= .returned (.bool (zC b.pages b.w))/\Mem w [] w':=by
 refine cD Tryz.func340 rfl Tryz.ntmps340 rfl ?_;refine Gc ?_;refine bN rfl fun b1=>ba ?_;refine Gb (fun h0=>?_) fun h0=>?_
 ·
  refine dv ?_;refine Gr fun w1 hw=>?_;exact Ge (by rw[zC,if_pos h0]) hw
 refine iF ?_;refine gG rfl rfl rfl (fun hg=>(Ry.yl (aL (o':=0) (az hg rfl) rfl))) (aN ?_);refine gG rfl rfl rfl (fun hg=>(Ry.yl (aL (o':=0) (az hg rfl) rfl))) (dv ?_);refine Gr fun w1 hw=>?_;exact Ge (by rw[zC,if_neg (by rw[h0];simp)]) hw
theorem aev(w:World)(a:jF)(b:jF):Calls Tryz.prog 336 #[.agg (fP a), .agg (fP b)] w fun e w'=>e= .returned (.int .i64 (Bn a.w b.w))/\Mem w [] w':=by
 refine cQ Tryz.func336 rfl Tryz.ntmps336 rfl ?_;refine Gc ?_;refine bN rfl fun b2=>bN rfl fun b3=>qe ?_;refine Gr fun w1 hw=>?_;exact⟨rfl,ai.mem hw⟩
theorem aew(w:World)(a:jF)(b:jF):Calls Tryz.prog 334 #[.agg (fP a), .agg (fP b)] w fun e w'=>e= .returned (.int .i64 (tg a.w b.w))/\Mem w [] w':=by
 refine cQ Tryz.func334 rfl Tryz.ntmps334 rfl ?_;refine Gc ?_;refine bN rfl fun b2=>bN rfl fun b3=>qe ?_;refine Gr fun w1 hw=>?_;exact⟨rfl,ai.mem hw⟩
theorem aex(w:World)(a:jF)(b:jF):Calls Tryz.prog 342 #[.agg (fP a), .agg (fP b)] w fun e w'=>e= .returned (.int .i64 (Lg a.w b.w))/\Mem w [] w':=by
 refine cQ Tryz.func342 rfl Tryz.ntmps342 rfl ?_;refine Gc ?_;refine bN rfl fun b2=>bN rfl fun b3=>qe ?_;refine Gr fun w1 hw=>?_;exact⟨rfl,ai.mem hw⟩
theorem aey(w:World)(a:jF)(b:jF):Calls Tryz.prog 341 #[.agg (fP a), .agg (fP b)] w fun e w'=>e= .returned (.int .i64 (Bp a.w b.w))/\Mem w [] w':=by
 refine cQ Tryz.func341 rfl Tryz.ntmps341 rfl ?_;refine Gc ?_;refine bN rfl fun b2=>bN rfl fun b3=>fk ?_;refine ag (O3 rfl rfl Tryz.underlying4) (aA ?_);refine Gb (fun h0=>?_) fun h0=>?_
 ·
  refine al ?_;refine Gr fun w1 hw=>?_;exact Gf ((by rw[Bp,if_pos (by simpa using h0)])) hw
 refine ba ?_;refine Gb (fun h1=>?_) fun h1=>?_
 ·
  refine al ?_;refine Gr fun w1 hw=>?_;exact Gf ((by rw[Bp,if_neg (by simpa using h0),if_pos h1])) hw
 refine al ?_;refine Gr fun w1 hw=>?_;exact Gf ((by rw[Bp,if_neg (by simpa using h0),if_neg (by rw[h1];simp)])) hw
instance ap0{l:Sv}{ls:List aB}{p:Int}[hl:cP w0 L bH 4 l ls]:cx Tryz.prog 346 w0 L [l.val, .int .i64 p] (.bool (mA ls p)) (True):=⟨fun aF w hw=>by
 have hl:=hl.h w hw;have sr:Gv w l bH 4 ls:=⟨hl⟩;have ra:cV=1099511627776:=rfl;refine cQ Tryz.func346 rfl Tryz.ntmps346 rfl ?_;refine aag ?_;refine Gb (fun h0=>?_) fun h0=>?_
 ·
  have hz:mA ls p=false:=by
   cases hk:mA ls p with
   |false=>rfl
   |true=>have g:=th.1 hk;omega
  refine al ?_;refine Gr fun w1 hw=>?_;exact Ge (hz.symm) hw
 refine aN ?_;refine bR (X:=Nat) (fun zz=>[(25, .int .i64 (zz:Nat)),(1, .int .i64 p),(23,l.val),(24, .int .i64 (ls.length:Nat))]) (fun zz=>[]) (fun zz=>zz<=ls.length/\ ∀j x,j<zz->ls[j]? =Option.some x->xM p x=true) (fun zz=>ls.length -zz) 0 ⟨Nat.zero_le _,fun j x hj=>by first|omega|(simp only[];omega)⟩ sb (fun w hw=>ai.mem hw) ?_;rintro i ⟨bg,aH⟩;refine al ?_;refine Gb (fun h1=>?_) fun h1=>?_
 ·
  refine od ?_;obtain⟨x,hx⟩:=get_some (xs:=ls) (i:=i) oM;refine ag (aX rfl rfl i rfl oM) (ag (gQ rfl i hx rfl) (bl fun b6=>QE ?_));refine Gb (fun h2=>?_) fun h2=>?_
  ·
   have hz:mA ls p=false:=by
    cases hk:mA ls p with
    |false=>rfl
    |true=>
     have g:=sa.1 ((th.1 hk).2.2.2.2 x (alM hx));omega
   refine al ?_;refine Gr fun w1 hw=>?_;exact Ge (hz.symm) hw
  have xQ:xM p x=true:=sa.2 ⟨by omega,by omega,by omega,by omega,by omega⟩;refine al ?_;refine Gi ?_;exact bm (x:=(i)) (i+1) ⟨oF,fun j y hj hy=>if e:j=i then(by subst e;rw[hx]at hy;cases hy;exact xQ)else aH j y oF hy⟩ oF sb (fun w hw=>ai.mem hw)
 obtain rfl:i=ls.length:=by omega
 have hz:mA ls p=true:=th.2 ⟨by omega,by omega,by omega,by omega,fun x hx=>by
  obtain⟨j,hj⟩:=ato hx;exact aH j x (ad2.1 hj).1 hj⟩
 refine al ?_;refine Gr fun w1 hw=>?_;exact⟨congrArg (fun b=>Ending.returned (Value.bool b)) (hz.symm),ai.mem hw⟩⟩
def iV(f:FuncId):aB->aB->Int:=if f=336 then Bn else if f=334 then tg else if f=342 then Lg else Bp
theorem aez{f:FuncId}(h:f∈[336,334,342,341]):aI Tryz.prog f/\ ∀(w:World) (a b:jF),Calls Tryz.prog f #[.agg (fP a), .agg (fP b)] w fun e w'=>e= .returned (.int .i64 (iV f a.w b.w))/\Mem w [] w':=by
 simp only[as2,avt,or_false]at h;rcases h with rfl|rfl|rfl|rfl
 ·
  exact⟨inferInstance,fun w a b=>aev w a b⟩
 ·
  exact⟨inferInstance,fun w a b=>aew w a b⟩
 ·
  exact⟨inferInstance,fun w a b=>aex w a b⟩
 exact⟨inferInstance,fun w a b=>aey w a b⟩
def ni(f:FuncId)(p:Int):aB->Bool:=if f=335 then mT p else if f=333 then my else zC p
theorem aeA{f:FuncId}(h:f∈[335,333,340]):aI Tryz.prog f/\ ∀(w:World) (b:jF),Calls Tryz.prog f #[.agg (fP b)] w fun e w'=>e= .returned (.bool (ni f b.pages b.w))/\Mem w [] w':=by
 simp only[as2,avt,or_false]at h;rcases h with rfl|rfl|rfl
 ·
  exact⟨inferInstance,fun w b=>Ul w b⟩
 ·
  exact⟨inferInstance,fun w b=>Um w b⟩
 exact⟨inferInstance,fun w b=>aeu w b⟩
instance ap1{a:jF}{b:jF}{o:Sv}{os:List FuncId}[ho:cP w0 L uY 1 o os]:cx Tryz.prog 348 w0 L [.agg (fP a), .agg (fP b),o.val] (.bool (uF a.w b.w (os.map iV))) (∀f∈os,f∈[336,334,342,341]):=⟨fun aF w hw=>by
 have ho:=ho.h w hw;have gho:Gv w o uY 1 os:=⟨ho⟩;have jk:=ho.bd;refine s9 Tryz.func348 rfl Tryz.ntmps348 rfl ?_;refine Gc ?_;refine bN rfl fun b3=>bN rfl fun b4=>ba ?_;refine bR (X:=Nat) (fun zz=>[(12, .int .i64 (zz:Nat)),(3, .pointer (some ⟨b3,0,none⟩)),(4, .pointer (some ⟨b4,0,none⟩)),(10,o.val),(11, .int .i64 (os.length:Nat))]) (fun zz=>[aq b4 (fP b) 432,aq b3 (fP a) 432]) (fun zz=>zz<=os.length/\uF a.w b.w (os.map iV)=uF a.w b.w ((os.drop zz).map iV)) (fun zz=>os.length -zz) 0 ⟨Nat.zero_le _,rfl⟩ sb (fun w hw=>ai.mem hw) ?_;rintro i ⟨bg,aH⟩;refine al ?_;refine Gb (fun h0=>?_) fun h0=>?_
 ·
  obtain⟨f,hf⟩:=get_some (xs:=os) (i:=i) oM;obtain⟨isf,hfc⟩:=aez (aF f (alM hf));have bq:uF a.w b.w ((os.drop i).map iV)=if iV f a.w b.w≠0 then decide (iV f a.w b.w<0)else uF a.w b.w ((os.drop (i+1)).map iV):=by
   rw[drop_at hf,atq,uF]
  refine Gc ?_;refine ag (aX rfl rfl i rfl oM) (ag (bL (j:=0) rfl i hf rfl (by decide)) (aN ?_));refine eC (HM (f:=f) (vs:=[.agg (fP a), .agg (fP b)]) rfl rfl (fun w1 _=>hfc w1 a b)) (aN ?_);refine Gb (fun h1=>?_) fun h1=>?_
  ·
   have hz:uF a.w b.w (os.map iV)=decide (iV f a.w b.w<0):=by rw[aH,bq,if_pos h1]
   refine aN ?_;refine Gr fun w1 hw=>?_;exact Ge (hz.symm) hw
  rw[if_neg oM]at bq;refine al ?_;refine Gi ?_;exact bm (x:=(i)) (i+1) ⟨oF,by rw[aH,bq]⟩ oF sb (fun w hw=>ai.mem hw)
 obtain rfl:i=os.length:=by omega
 have hz:uF a.w b.w (os.map iV)=false:=by rw[aH,avu];rfl
 refine al ?_;refine Gr fun w1 hw=>?_;exact⟨congrArg (fun b=>Ending.returned (Value.bool b)) (hz.symm),ai.mem hw⟩⟩
instance ap2{r:FuncId}{l:Sv}{ls:List aB}{p:Int}{o:Sv}{os:List FuncId}[hl:cP w0 L bH 4 l ls][ho:cP w0 L uY 1 o os]:cx Tryz.prog 332 w0 L [l.val, .int .i64 p, .func (.func r) #[] #[],o.val] (.tuple #[.int .i64 ((fB ls p (ni r p) (os.map iV)).1), .bool ((fB ls p (ni r p) (os.map iV)).2)]) (r∈[335,333,340]/\ ∀f∈os,f∈[336,334,342,341]):=⟨fun aF w hw=>by
 have hl:=hl.h w hw;have ho:=ho.h w hw;have sr:Gv w l bH 4 ls:=⟨hl⟩;have gho:Gv w o uY 1 os:=⟨ho⟩;obtain⟨gZ,L4⟩:=aF;obtain⟨isr,hrc⟩:=aeA gZ;have jk:=hl.bd;refine QF Tryz.func332 rfl Tryz.ntmps332 rfl ?_;refine iF ?_;refine Gb (fun h0=>?_) fun h0=>?_
 ·
  have hE:fB ls p (ni r p) (os.map iV)=(0,false):=if_neg (by rw[h0];simp);refine av ?_;refine Gr fun w1 hw=>?_;exact⟨by rw[hE],ai.mem hw⟩
 have hE:fB ls p (ni r p) (os.map iV)=iN ls (ni r p) (os.map iV) ls.length:=if_pos h0;refine fk ?_;refine bR (X:=Nat) (fun zz=>[(21, .int .i64 (zz:Nat)),(10, .int .i64 ((iN ls (ni r p) (os.map iV) zz).1)),(11, .bool ((iN ls (ni r p) (os.map iV) zz).2)),(0,l.val),(1, .int .i64 p),(2, .func (.func r) #[] #[]),(3,o.val),(19,l.val),(20, .int .i64 (ls.length:Nat))]) (fun zz=>[]) (fun zz=>zz<=ls.length) (fun zz=>ls.length -zz) 0 (atv _) sb (fun w hw=>ai.mem hw) ?_;rintro i bg;refine al ?_;refine Gb (fun h1=>?_) fun h1=>?_
 ·
  obtain⟨x,hx⟩:=get_some (xs:=ls) (i:=i) oM;have MC:ls.getD i ei=x:=by simp[List.getD,hx]
  have hle:=Lh ls (ni r p) (os.map iV) i;refine aA ?_;refine ag (aX rfl rfl i rfl oM) (ag (gQ rfl i hx rfl) (bl fun jZ=>aN ?_));refine ag (di (v:= .agg (fP ⟨x,p⟩)) rfl (MB x p)) (bl fun HO=>av ?_);refine eC (HM (f:=r) (vs:=[.agg (fP ⟨x,p⟩)]) rfl rfl (fun w1 _=>hrc w1 ⟨x,p⟩)) (aA ?_);refine Gb (fun h2=>?_) fun h2=>?_
  ·
   have bq:(iN ls (ni r p) (os.map iV) (i+1))=(iN ls (ni r p) (os.map iV) i):=by rw[iN,Bq,MC,if_neg (by rw[h2];simp)]
   refine al ?_;refine Gi ?_;exact bm (x:=(i)) (i+1) oF oF (Sub.cons rfl (Sub.cons (look_eq rfl (by rw[bq])) (Sub.cons (look_eq rfl (by rw[bq])) sb))) (fun w hw=>ai.mem hw)
  refine Gc ?_;refine gm oK oK (al ?_);refine eK rfl rfl rfl (fun hg=>(Ry.yl (gE rfl))) (aA ?_);refine eK rfl rfl rfl (fun hg=>(Ry.yl (aX (az hg rfl) (az hg rfl) ((iN ls (ni r p) (os.map iV) i).1.toNat) oM (by have:=hle.1;have:=hle.2.1;have:=(ad2.1 hx).1;omega)))) ?_;refine eK rfl rfl rfl (fun hg=>(Ry.yl (gQ (az hg rfl) ((iN ls (ni r p) (os.map iV) i).1.toNat) (mN (d:=ei) (by have:=hle.1;have:=hle.2.1;have:=(ad2.1 hx).1;omega)) rfl))) ?_;refine Gh ?_;refine eK rfl rfl rfl (fun hg=>(Ry.yl (di (v:= .agg (fP ⟨(ls.getD (iN ls (ni r p) (os.map iV) i).1.toNat ei),p⟩)) (CM (az hg rfl) (CM (az hg rfl) O4)) (MB (ls.getD (iN ls (ni r p) (os.map iV) i).1.toNat ei) p)))) (Gh ?_);refine eK rfl rfl rfl (fun hg=>cl (dy (az hg rfl) (dy (az hg rfl) (dy (az hg rfl) gD))) L4) (aA ?_);refine Gb (fun h3=>?_) fun h3=>?_
  ·
   have bq:(iN ls (ni r p) (os.map iV) (i+1))=((i:Int),true):=by
    rw[iN,Bq,MC,if_pos ⟨h2,h3⟩]
   refine Gi ?_;refine ba ?_;refine Gi ?_;exact bm (x:=(i)) (i+1) oF oF (Sub.cons rfl (Sub.cons (look_eq rfl (by rw[bq])) (Sub.cons (look_eq rfl (by rw[bq])) sb))) (fun w hw=>ai.mem hw)
  have bq:(iN ls (ni r p) (os.map iV) (i+1))=(iN ls (ni r p) (os.map iV) i):=by
   rw[iN,Bq,MC,if_neg];rintro⟨_,g⟩;rcases g with g|g
   ·
    exact absurd (h3.1.symm.trans g) (by simp)
   exact absurd (h3.2.symm.trans g) (by simp)
  refine al ?_;refine Gi ?_;exact bm (x:=(i)) (i+1) oF oF (Sub.cons rfl (Sub.cons (look_eq rfl (by rw[bq])) (Sub.cons (look_eq rfl (by rw[bq])) sb))) (fun w hw=>ai.mem hw)
 obtain rfl:i=ls.length:=by omega
 refine ba ?_;refine Gr fun w1 hw=>?_;exact⟨by rw[hE],ai.mem hw⟩⟩
instance ap3{l:Sv}{ls:List aB}{p:Int}[hl:cP w0 L bH 4 l ls]:cx Tryz.prog 313 w0 L [l.val, .int .i64 p] (.tuple #[.int .i64 ((fC ls p).1), .bool ((fC ls p).2)]) (True):=⟨fun aF w hw=>by
 have hl:=hl.h w hw;have sr:Gv w l bH 4 ls:=⟨hl⟩;refine cQ Tryz.func313 rfl Tryz.ntmps313 rfl ?_;refine ba ?_;refine mc (enc:=uY) (vals:=[.func (.func 336) #[] #[], .func (.func 334) #[] #[]]) [336,334] rfl rfl rfl (by decide) (by decide) fun b8=>?_;refine eC (cl rfl (by decide)) (ag (aJ rfl rfl) (ag (aJ rfl rfl) (al ?_)));refine Gr fun w1 hw=>?_;exact⟨rfl,ai.mem hw⟩⟩
instance ap4{l:Sv}{ls:List aB}{p:Int}[hl:cP w0 L bH 4 l ls]:cx Tryz.prog 310 w0 L [l.val, .int .i64 p] (.tuple #[.int .i64 ((fK ls p).1), .bool ((fK ls p).2)]) (True):=⟨fun aF w hw=>by
 have hl:=hl.h w hw;have sr:Gv w l bH 4 ls:=⟨hl⟩;refine cQ Tryz.func310 rfl Tryz.ntmps310 rfl ?_;refine ba ?_;refine mc (enc:=uY) (vals:=[.func (.func 334) #[] #[]]) [334] rfl rfl rfl (by decide) (by decide) fun b8=>?_;refine eC (cl rfl (by decide)) (ag (aJ rfl rfl) (ag (aJ rfl rfl) (al ?_)));refine Gr fun w1 hw=>?_;exact⟨rfl,ai.mem hw⟩⟩
instance ap5{l:Sv}{ls:List aB}{p:Int}[hl:cP w0 L bH 4 l ls]:cx Tryz.prog 327 w0 L [l.val, .int .i64 p] (.tuple #[.int .i64 ((vZ ls p).1), .bool ((vZ ls p).2)]) (True):=⟨fun aF w hw=>by
 have hl:=hl.h w hw;have sr:Gv w l bH 4 ls:=⟨hl⟩;refine cQ Tryz.func327 rfl Tryz.ntmps327 rfl ?_;refine ba ?_;refine mc (enc:=uY) (vals:=[.func (.func 341) #[] #[], .func (.func 342) #[] #[], .func (.func 334) #[] #[]]) [341,342,334] rfl rfl rfl (by decide) (by decide) fun b8=>?_;refine eC (cl rfl (by decide)) (ag (aJ rfl rfl) (ag (aJ rfl rfl) (al ?_)));refine Gr fun w1 hw=>?_;exact⟨rfl,ai.mem hw⟩⟩
instance ap6{l:Sv}{ls:List aB}{p:Int}[hl:cP w0 L bH 4 l ls]:cx Tryz.prog 330 w0 L [l.val, .int .i64 p] (.int .i64 (G8 ls p)) (True):=⟨fun aF w hw=>by
 have hl:=hl.h w hw;have sr:Gv w l bH 4 ls:=⟨hl⟩;refine cQ Tryz.func330 rfl Tryz.ntmps330 rfl ?_;refine fk ?_;refine Gb (fun h0=>?_) fun h0=>?_
 ·
  have hE:G8 ls p=0:=if_neg (by rw[h0];simp);refine al ?_;refine Gr fun w1 hw=>?_;exact Gf (by rw[hE]) hw
 have hE:G8 ls p=fR (ls.map (ow p)):=if_pos h0;obtain⟨k1,k2,k3,k4,k5⟩:=th.1 h0;refine dv ?_;refine bR (X:=Nat) (fun zz=>[(15, .int .i64 (zz:Nat)),(5, .int .i64 (fR ((ls.take zz).map (ow p)))),(1, .int .i64 p),(13,l.val),(14, .int .i64 (ls.length:Nat))]) (fun zz=>[]) (fun zz=>zz<=ls.length) (fun zz=>ls.length -zz) 0 (atv _) sb (fun w hw=>ai.mem hw) ?_;rintro i bg;refine al ?_;refine Gb (fun h1=>?_) fun h1=>?_
 ·
  obtain⟨x,hx⟩:=get_some (xs:=ls) (i:=i) oM;have xQ:=sa.1 (k5 x (alM hx));have fv:(fR ((ls.take (i+1)).map (ow p)))=(fR ((ls.take i).map (ow p)))+ow p x:=by rw[atf,hx,atE,Sk];simp[fR]
  have hsb:=Sn p (ls.take i) (fun x hx=>k5 x (au0 hx)) oM;have n9:(ls.take i).length<=32:=by rw[as6];omega
  have ng:((ls.take i).length:Int)*p<=512:=room_le n9 oM oM;refine Gc ?_;refine ag (aX rfl rfl i rfl oM) (ag (gQ rfl i hx rfl) (bl fun b7=>av ?_));refine ag (di (v:= .agg (fP ⟨x,p⟩)) rfl (MB x p)) (bl fun b8=>ba ?_);refine Gb (fun h2=>?_) fun h2=>?_
  ·
   have hr:ow p x=p:=if_pos h2;refine Gi ?_;refine dv ?_;refine Gi ?_;exact bm (x:=(i)) (i+1) oF oF (Sub.cons rfl (Sub.cons (look_eq rfl (by rw[fv,hr])) sb)) (fun w hw=>ai.mem hw)
  refine aN ?_;refine Gb (fun h3=>?_) fun h3=>?_
  ·
   have hr:ow p x=p -x.used:=by rw[ow,if_neg (by rw[h2];simp),if_pos h3]
   refine Gi ?_;refine av ?_;refine ag (Ry.to (v':= .int .i64 x.used) (bO rfl) rfl) (ba ?_);refine Gi ?_;exact bm (x:=(i)) (i+1) oF oF (Sub.cons rfl (Sub.cons (look_eq rfl (by rw[fv,hr])) sb)) (fun w hw=>ai.mem hw)
  have hr:ow p x=0:=by rw[ow,if_neg (by rw[h2];simp),if_neg (by rw[h3];simp)]
  refine al ?_;refine Gi ?_;exact bm (x:=(i)) (i+1) oF oF (Sub.cons rfl (Sub.cons (look_eq rfl (by rw[fv,hr,Int.add_zero])) sb)) (fun w hw=>ai.mem hw)
 obtain rfl:i=ls.length:=by omega
 refine av ?_;refine Gr fun w1 hw=>?_;exact⟨congrArg (fun b=>Ending.returned (Value.int .i64 b)) (by rw[hE,atr]),ai.mem hw⟩⟩
instance ap7{n:Nat}:bQ Tryz.prog 302 w0 L [.slice none 0 0, .int .i64 (n:Nat)] (Sv) (fun zz=>zz.val) (fun zz=>own (cd (τ:=UInt8)) 1 zz ([]:List (Sl UInt8))::L) (fun zz=>True) (n<=1000000000):=⟨fun aF w hw=>Gk (fun zz=>[own (cd (τ:=UInt8)) 1 zz ([]:List (Sl UInt8))]) hw (by
 refine cQ Tryz.func302 rfl Tryz.ntmps302 rfl ?_;refine ba ?_;refine Gb (fun h0=>?_) fun h0=>?_
 ·
  exfalso;omega
 refine al ?_;refine ag (Gp rfl) (Gs ?_);refine ag (yO rfl) (dv ?_);refine Gb (fun h1=>?_) fun h1=>?_
 ·
  refine Gi ?_;refine aA ?_;refine ag (Gp rfl) (ag (Ry.to (v':= .slice none 0 0) (xi (s:=Sv.none) (h:=0) rfl rfl rfl Sv.CT (as4 _)) rfl) (Gs ?_));refine QP (enc:=(cd (τ:=UInt8))) (k:=n) (⟨Sv.none,[]⟩:Sl UInt8) rfl rfl oM oM (by decide) rfl Tryz.underlying3 oM oM fun DY DZ Mq=>Gs ?_;refine ag (yO rfl) (ag (xi (s:=⟨false,DY,0,n,DZ,none⟩) (h:=0) rfl rfl rfl ⟨(fun h=>by cases h),Mq,by simp only;omega,fun _=>rfl⟩ (atv _)) (aN ?_));refine Gr fun w1 hw=>?_;refine⟨Sv.sub ⟨false,DY,0,n,DZ,none⟩ 1 0 0,rfl,trivial,?_⟩;have ft:=Mem.QO (i:=0) (k:=0) hw rfl (atv _);rw[atH]at ft;exact ft
 have hn:n=0:=by omega
 refine av ?_;refine Gr fun w1 hw=>?_;exact⟨Sv.none,rfl,trivial,(ai.mem hw:Mem w [] _).dA (cd (τ:=UInt8)) 1⟩)⟩
instance Un{a:Sl (Sl (Sl UInt8))}[ha:aT w0 L a]:bQ Tryz.prog 258 w0 L [a.sv.val] (Sv) (fun zz=>zz.val) (fun zz=>own (cd (τ:=UInt8)) 1 zz (fQ a.xs)::L) (fun zz=>True) ((fQ a.xs).length<=1000000):=⟨fun aF w hw=>Gk (fun zz=>[own (cd (τ:=UInt8)) 1 zz (fQ a.xs)]) hw (by
 have ha:=ha.h w hw;have Mr:cG w a:=⟨ha⟩;have rD:=ha.1.bd;have eL:=abY a.xs;refine cD Tryz.func258 rfl Tryz.ntmps258 rfl ?_;refine iF ?_;refine bR (X:=Nat) (fun zz=>[(11, .int .i64 (zz:Nat)),(3, .int .i64 ((fQ (a.xs.take zz)).length:Nat)),(0,a.sv.val),(9,a.sv.val),(10, .int .i64 (a.xs.length:Nat))]) (fun zz=>[]) (fun zz=>zz<=a.xs.length) (fun zz=>a.xs.length -zz) 0 (atv _) sb (fun w hw=>ai.mem hw) ?_;rintro i hi;have xB:=eL i;have lI:=eL (i+1);refine al ?_;refine Gb (fun h0=>?_) fun h0=>?_
 ·
  refine od ?_;obtain⟨x,hx⟩:=get_some (xs:=a.xs) (i:=i) oM;refine ag (aX rfl rfl i rfl oM) (ag (bL (j:=0) rfl i hx rfl (by decide)) ?_);have hfx:(fQ (a.xs.take (i+1))).length=(fQ (a.xs.take i)).length+x.xs.length:=by rw[G7 hx,af0]
  have HP:Mb x _:=⟨List.mem_of_getElem? hx⟩;refine qe ?_;refine Gb (fun h1=>?_) fun h1=>?_
  ·
   exfalso;omega
  refine al ?_;refine Gi ?_;exact bm (x:=(i)) (i+1) oF oF (Sub.cons rfl (Sub.cons (look_eq rfl (by rw[G7 hx,af0];simp)) sb)) (fun w hw=>ai.mem hw)
 obtain rfl:i=a.xs.length:=by omega
 have nW:=eL a.xs.length;refine aA ?_;refine bj rfl oM fun qo D0=>ba ?_;refine bR (X:=Nat×Sv) (fun zz=>[(27, .int .i64 (zz.1:Nat)),(6,zz.2.val),(25,a.sv.val),(26, .int .i64 (a.xs.length:Nat))]) (fun zz=>[own (cd (τ:=UInt8)) 1 zz.2 (fQ (a.xs.take zz.1))]) (fun zz=>zz.1<=a.xs.length) (fun zz=>a.xs.length -zz.1) (0,qo) (Nat.zero_le _) sb (fun w hw=>(ai.mem hw:Mem _ [own (cd (τ:=UInt8)) 1 qo ([]:List (Sl UInt8))] _)) ?_;rintro⟨k,s1⟩ hk;dsimp only;simp only at hk;have xB:=eL k;have lI:=eL (k+1);refine al ?_;refine Gb (fun h2=>?_) fun h2=>?_
 ·
  refine od ?_;obtain⟨y,hy⟩:=get_some (xs:=a.xs) (i:=k) oM;refine ag (aX rfl rfl k rfl oM) (ag (bL (j:=0) rfl k hy rfl (by decide)) ?_);have hfy:(fQ (a.xs.take (k+1))).length=(fQ (a.xs.take k)).length+y.xs.length:=by rw[G7 hy,af0]
  have Uf:Mb y _:=⟨List.mem_of_getElem? hy⟩;refine av ?_;refine kV (s:=s1) (enc:=(cd (τ:=UInt8))) (ys:=y.xs) rfl rfl (by decide) (fun w hw=>jN (s:=y.sv) Tryz.underlying178 (by decide) ((inferInstance:cP _ _ (cd (τ:=UInt8)) 1 y.sv y.xs).h w hw)) oM oM fun Ms aem aen=>?_;refine av ?_;refine Gi ?_;exact bm (x:=(k,s1)) (k+1,Ms) (by simp only;omega) (by simp only;omega) sb (fun w hw=>by rw[G7 hy];exact ai.mem hw)
 obtain rfl:k=a.xs.length:=by omega
 refine av ?_;refine Gr fun w1 hw=>?_;exact⟨s1,rfl,trivial,by rw[atr]at hw;exact ai.mem hw⟩)⟩
instance ap8{x:Sv}{xs:List Int}{y:Sv}{ys:List Int}[hx:cP w0 L bx 1 x xs][hy:cP w0 L bx 1 y ys]:cx Tryz.prog 167 w0 L [x.val,y.val] (.bool (decide (xs=ys))) (True):=⟨fun aF w hw=>by
 have hx:=hx.h w hw;have hy:=hy.h w hw;have BL:Gv w x bx 1 xs:=⟨hx⟩;have Uo:Gv w y bx 1 ys:=⟨hy⟩;have hbx:=hx.bd;refine cQ Tryz.func167 rfl Tryz.ntmps167 rfl ?_;refine iF ?_;refine Gb (fun h0=>?_) fun h0=>?_
 ·
  have hz:decide (xs=ys)=false:=decide_eq_false fun e=>h0 (by rw[e]);refine al ?_;refine Gr fun w1 hw=>?_;exact Ge (hz.symm) hw
 have oq:xs.length=ys.length:=by omega
 refine aN ?_;refine bR (X:=Nat) (fun zz=>[(13, .int .i64 (zz:Nat)),(0,x.val),(1,y.val),(12, .int .i64 (xs.length:Nat))]) (fun zz=>[]) (fun zz=>zz<=xs.length/\ ∀j,j<zz->xs[j]? =ys[j]?) (fun zz=>xs.length -zz) 0 ⟨Nat.zero_le _,fun j hj=>by first|omega|(simp only[];omega)⟩ sb (fun w hw=>ai.mem hw) ?_;rintro i ⟨bg,aH⟩;refine al ?_;refine Gb (fun h1=>?_) fun h1=>?_
 ·
  obtain⟨p,kY⟩:=get_some (xs:=xs) (i:=i) oM;obtain⟨q,wq⟩:=get_some (xs:=ys) (i:=i) oM;refine av ?_;refine gm oK oK (aA ?_);refine bE (aX rfl rfl i rfl oM) (bE (bL (j:=0) rfl i kY rfl (by decide)) (aA ?_));refine bE (aX rfl rfl i rfl oM) (bE (bL (j:=0) rfl i wq rfl (by decide)) (aA ?_));refine Gb (fun h2=>?_) fun h2=>?_
  ·
   have hz:decide (xs=ys)=false:=decide_eq_false fun e=>h2 (by rw[e]at kY;rw[kY]at wq;cases wq;rfl);refine al ?_;refine Gr fun w1 hw=>?_;exact Ge (hz.symm) hw
  refine al ?_;refine Gi ?_;exact bm (x:=(i)) (i+1) ⟨oF,fun j hj=>if e:j=i then(by subst e;rw[kY,wq,h2])else aH j oF⟩ oF sb (fun w hw=>ai.mem hw)
 obtain rfl:i=xs.length:=by omega
 have hz:decide (xs=ys)=true:=decide_eq_true (at5 fun j=>by
  rcases as3 j xs.length with hj|hj
  ·
   exact aH j hj
  rw[as7 hj,as7 oM])
 refine al ?_;refine Gr fun w1 hw=>?_;exact⟨congrArg (fun b=>Ending.returned (Value.bool b)) (hz.symm),ai.mem hw⟩⟩
theorem aeB(g:UInt64)(w:World):(Instr.build 314 #[(0, .int .u64 (g.toNat:Int))]).run Tryz.prog w= .ok (.agg (eW ⟨g,⟨Sv.none,[]⟩⟩)) w:=by
 unfold eW;kernel_rfl
instance ap9{b:Sv}{bs:List UInt8}[hb:cP w0 L aQ 1 b bs]:bQ Tryz.prog 297 w0 L [b.val] (dE) (fun zz=> .tuple #[.agg (eW zz), .int .i64 ((bF bs).2)]) (fun zz=>own bx 1 zz.at_.sv zz.at_.xs::L) (fun zz=>dH zz=(bF bs).1) (True):=⟨fun aF w hw=>Gk (fun zz:dE=>[own bx 1 zz.at_.sv zz.at_.xs]) hw (by
 have hb:=hb.h w hw;have zW:Gv w b aQ 1 bs:=⟨hb⟩;refine cD Tryz.func297 rfl Tryz.ntmps297 rfl ?_;refine Gc ?_;refine bl fun b2=>al ?_;refine bj rfl trivial fun dQ zZ=>?_;have Up:dQ.kind=(cE bs).1.kind:=congrArg PV.kind zZ;have MD:dQ.id=(cE bs).1.id:=congrArg PV.id zZ;have qt:dQ.gen.toNat=(cE bs).1.gen:=congrArg PV.gen zZ;have qf:dQ.body.xs=(cE bs).1.body:=congrArg PV.body zZ;have dX:=La bs;rw[←qf]at dX;refine Gs ?_;refine ag (aJ (v:= .agg (c8 dQ)) rfl rfl) (ag (aJ (v:= .int .i64 ((cE bs).2)) rfl rfl) (bl fun b4=>ba ?_));refine Gb (fun h0=>?_) fun h0=>?_
 ·
  have hE:bF bs=(iw,(cE bs).2):=by rw[bF,if_pos h0]
  refine Gc ?_;refine ag (di (v:= .agg (eW mq)) rfl (fun w=>by kernel_rfl)) (av ?_);refine Gr fun w1 hw=>?_;exact⟨mq,by rw[hE],by rw[hE];rfl,Mem.dA bx 1 (ai.mem hw:Mem w [] _)⟩
 refine aN ?_;refine Gb (fun h1=>?_) fun h1=>?_
 ·
  have hE:bF bs=(iw,6):=by rw[bF,if_neg oM,if_pos oM]
  refine Gc ?_;refine ag (di (v:= .agg (eW mq)) rfl (fun w=>by kernel_rfl)) (al ?_);refine Gr fun w1 hw=>?_;exact⟨mq,by rw[hE],by rw[hE];rfl,Mem.dA bx 1 (ai.mem hw:Mem w [] _)⟩
 refine av ?_;refine ag (mK rfl rfl oM oM) (iF ?_);refine bn rfl rfl rfl (fun hg=>(Ry.yl (xn (p:=dQ.body.xs.length) (q:=2) (az hg rfl) rfl rfl rfl (by simp only[Z0,Z1,Z2,Z3,Z4,Z5,Z6,Z7,Z8,Z9]at hg;omega)))) (ba ?_);refine bn rfl rfl rfl (fun hg=>(Ry.yl (vr (az hg rfl) rfl (by simp only[Z0,Z1,Z2,Z3,Z4,Z5,Z6,Z7,Z8,Z9]at hg;omega)))) (bn rfl rfl rfl (fun hg=>(Ry.yl (w7 rfl (az hg rfl)))) (al ?_));refine Gb (fun h2=>?_) fun h2=>?_
 ·
  have ln:vX (cE bs).1=false:=by
   cases hk:vX (cE bs).1 with
   |false=>rfl
   |true=>
    simp only[vX,anc,decide_eq_true_eq,←Up,←MD,←qf]at hk;omega
  have hE:bF bs=(iw,2):=by rw[bF,if_neg oM,if_neg oM,if_pos ln]
  refine Gc ?_;refine ag (di (v:= .agg (eW mq)) rfl (fun w=>by kernel_rfl)) (al ?_);refine Gr fun w1 hw=>?_;exact⟨mq,by rw[hE],by rw[hE];rfl,Mem.dA bx 1 (ai.mem hw:Mem w [] _)⟩
 have ln:vX (cE bs).1=true:=by
  simp only[vX,anc,decide_eq_true_eq,←Up,←MD,←qf];omega
 have hE:bF bs=(⟨dQ.gen.toNat,qj dQ.body.xs⟩,0):=by rw[bF,if_neg oM,if_neg oM,if_neg (by rw[ln];simp),qt,qf]
 have tI:=G5 dQ.body.xs;refine al ?_;refine ag (di (v:= .agg (eW ⟨dQ.gen,⟨Sv.none,[]⟩⟩)) rfl (aeB dQ.gen)) (bl fun b7=>aN ?_);refine bR (X:=Nat×Sv) (fun zz=>[(49, .int .i64 (zz.1:Nat)),(7, .pointer (some ⟨b7,0,none⟩)),(2, .pointer (some ⟨b2,0,none⟩)),(4, .pointer (some ⟨b4,0,none⟩)),(48, .int .i64 ((dQ.body.xs.length/2):Nat))]) (fun zz=>[aq b7 (eW ⟨dQ.gen,⟨zz.2,(qj dQ.body.xs).take zz.1⟩⟩) 314,own bx 1 zz.2 ((qj dQ.body.xs).take zz.1),aq b4 (c8 dQ) 324,own aQ 1 dQ.body.sv dQ.body.xs,aq b2 (eW mq) 314]) (fun zz=>zz.1<=dQ.body.xs.length/2) (fun zz=>dQ.body.xs.length/2 -zz.1) (0,Sv.none) (atv _) sb (fun w hw=>by
  simp only[atH];exact ai.mem (Mem.dA bx 1 hw)) ?_
 rintro⟨i,s1⟩ bg;dsimp only;simp only at bg;refine al ?_;refine Gb (fun h3=>?_) fun h3=>?_
 ·
  have fv:=abV (b:=dQ.body.xs) (i:=i) oM;refine av ?_;refine vK [19,20,22,1001,2019] [[],[],[],[],[],[],[],[],[],[],[],[],[],[],[],[],[],[],[],[],[1,19],[1,19,20],[1,19,20]] [0,1,2,3,4,5,6,7,8,9,10,11,12,13,14,15,16,17,18,19,20,21,22] [aq b4 (c8 dQ) 324,own aQ 1 dQ.body.sv dQ.body.xs] [(19,xC bx 1 1 [(r8 dQ.body.xs i)])] oK (fun _ hw=>ai.mem hw) oK oK (an rfl (aL (o':=1) rfl rfl) (lJ rfl (bO rfl) (an rfl (aL (o':=3) rfl rfl) (an rfl (bO rfl) (an rfl (aU rfl) (an rfl (rJ rfl rfl oM) (an rfl (aX rfl rfl (2*i) rfl oM) (an rfl (bL (j:=0) rfl (2*i) (mN (xs:=dQ.body.xs) (i:=2*i) (d:=0) oM) rfl (by decide)) (an rfl (y8 rfl) (an rfl (Pp rfl rfl) (an rfl (aL (o':=3) rfl rfl) (an rfl (bO rfl) ?_))))))))))));refine an rfl (aU rfl) (an rfl (rJ rfl rfl oM) (an rfl (sK rfl rfl oM) (an rfl (aX rfl rfl (2*i+1) rfl oM) (an rfl (bL (j:=0) rfl (2*i+1) (mN (xs:=dQ.body.xs) (i:=2*i+1) (d:=0) oM) rfl (by decide)) (an rfl (y8 rfl) (an rfl (Pq rfl rfl) (uz (m:=xC bx 1 1 [(r8 dQ.body.xs i)]) rfl rfl (Qz (enc:=bx) (c:=1) (n:=1) (vals:=[.int .i64 (r8 dQ.body.xs i)]) [(r8 dQ.body.xs i)] rfl rfl rfl (by decide) (by decide)) (Cert.none rfl) fun HS=>?_)))))));change Ln _ _ _ _ _ _ _ _ (cB _ _ (Sv.val ⟨false,HS,0,1,1,none⟩)) (own bx 1 ⟨false,HS,0,1,1,none⟩ [(r8 dQ.body.xs i)]::_) _;refine dS rfl (ZZ (s:=s1) (ys:=[(r8 dQ.body.xs i)]) rfl rfl (by decide) (fun w hw=>jN (s:=⟨false,HS,0,1,1,none⟩) Tryz.underlying60 (by decide) ((inferInstance:Hd _ _ ⟨false,HS,0,1,1,none⟩ bx 1 [(r8 dQ.body.xs i)]).h w hw)) (by simp only[as6,asZ,as0];omega) (by simp only[as6,asZ,as0];omega) fun Uq aqa aqb=>⟨fun _ hw=>ai.mem hw,?_⟩);refine an rfl (aL (o':=1) rfl rfl) ?_;refine dS rfl (A2 (cs':=eW (⟨dQ.gen,⟨Uq,(((qj dQ.body.xs).take i)++[(r8 dQ.body.xs i)])⟩⟩:dE)) rfl rfl (by show 1<2;decide) (by first|rfl|exact Sv.one _) rfl ⟨fun _ hw=>ai.mem hw,?_⟩);refine al ?_;refine Gi ?_;exact bm (x:=(i,s1)) (i+1,Uq) (by simp only;omega) (by simp only;omega) sb (fun w hw=>by
   simp only[fv];exact ai.mem hw)
 obtain rfl:i=dQ.body.xs.length/2:=by omega
 rw[ath oM]at*;refine aN ?_;refine Gr fun w1 hw=>?_;exact⟨⟨dQ.gen,⟨s1,qj dQ.body.xs⟩⟩,by rw[hE],by rw[hE];rfl,ai.mem hw⟩)⟩
instance Ur{l:Sl (Sl UInt8)}[hl:aT w0 L l]:bQ Tryz.prog 257 w0 L [l.sv.val] (dE) (fun zz=> .tuple #[.int .i64 ((gw (aM l.xs)).1), .agg (eW zz), .int .i64 ((gw (aM l.xs)).2.2)]) (fun zz=>own bx 1 zz.at_.sv zz.at_.xs::L) (fun zz=>dH zz=(gw (aM l.xs)).2.1) (True):=⟨fun aF w hw=>Gk (fun zz:dE=>[own bx 1 zz.at_.sv zz.at_.xs]) hw (by
 have hl:=hl.h w hw;have sr:cG w l:=⟨hl⟩;have jk:=hl.1.bd;have iT:=pt l.xs;refine cD Tryz.func257 rfl Tryz.ntmps257 rfl ?_;refine aA ?_;refine bl fun b3=>aA ?_;refine ag (di (v:= .agg (eW mq)) rfl (fun w=>by kernel_rfl)) (bl fun b6=>iF ?_);refine bR (X:=Nat×dE) (fun zz=>[(16, .int .i64 (zz.1:Nat)),(5, .int .i64 ((dw (aM l.xs) zz.1).at_)),(6, .pointer (some ⟨b6,0,none⟩)),(7, .bool ((dw (aM l.xs) zz.1).found)),(8, .bool ((dw (aM l.xs) zz.1).blank)),(3, .pointer (some ⟨b3,0,none⟩)),(14,l.sv.val),(15, .int .i64 (l.xs.length:Nat))]) (fun zz=>[aq b6 (eW zz.2) 314,own bx 1 zz.2.at_.sv zz.2.at_.xs,aq b3 (eW mq) 314]) (fun zz=>zz.1<=l.xs.length/\dH zz.2=(dw (aM l.xs) zz.1).new) (fun zz=>l.xs.length -zz.1) (0,mq) ⟨Nat.zero_le _,rfl⟩ sb (fun w hw=>by
  have h9:Mem _ [aq b6 (eW mq) 314,own bx 1 Sv.none [],aq b3 (eW mq) 314] _:=ai.mem (Mem.dA bx 1 hw);exact h9) ?_
 rintro⟨i,d⟩ ⟨bg,aH⟩;dsimp only;simp only at bg aH;refine al ?_;refine Gb (fun h0=>?_) fun h0=>?_
 ·
  obtain⟨y,hy⟩:=get_some (xs:=l.xs) (i:=i) oM;have My:Mb y l:=⟨List.mem_of_getElem? hy⟩;have Us:=qX hy;have Ut:d.gen.toNat=(dw (aM l.xs) i).new.gen:=congrArg RV.gen aH;refine aA ?_;refine ag (aX rfl rfl i rfl oM) (ag (bL (j:=0) rfl i hy rfl (by decide)) (ba ?_));refine gG rfl rfl rfl (fun hg=>cl (dy (az hg rfl) gD) trivial) (av ?_);refine bj rfl trivial fun dK oJ=>?_;have Uu:dK.gen.toNat=(bF y.xs).1.gen:=congrArg RV.gen oJ;refine Gs ?_;refine ag (aJ (v:= .agg (eW dK)) rfl rfl) (ag (aJ (v:= .int .i64 ((bF y.xs).2)) rfl rfl) (bl fun nO=>dv ?_));refine gG rfl rfl rfl (fun hg=>(Ry.yl (jM (az hg rfl)))) (gG rfl rfl rfl (fun hg=>(Ry.yl (aU (az hg rfl)))) (vt rfl rfl rfl (fun hg=>(Ry.yl (aL (o':=0) rfl rfl))) (vt rfl rfl rfl (fun hg=>(Ry.yl (bO (az hg rfl)))) (vt rfl rfl rfl (fun hg=>(Ry.yl (aL (o':=0) rfl rfl))) (vt rfl rfl rfl (fun hg=>(Ry.yl (bO (az hg rfl)))) (vt rfl rfl rfl (fun hg=>(Ry.yl (dz (az hg rfl) (az hg rfl) rfl))) (gG rfl rfl rfl (fun hg=>(Ry.yl (wW (az hg rfl) rfl (xe hg rfl)))) (aA ?_))))))));refine Gb (fun h1=>?_) fun h1=>?_
  ·
   have hq:(bF y.xs).2=0/\((dw (aM l.xs) i).found=false\/(dw (aM l.xs) i).new.gen<=(bF y.xs).1.gen):=⟨h1.1,h1.2.imp (fun h=>h) (fun h=>by rw[←Ut,←Uu];omega)⟩;have wu:=RZ Us hq;refine jE [3] [[],[],[],[],[3]] [0,1,2,3,4] [aq nO (eW dK) 314] (fun _ hw=>ai.mem hw) oK oK (an rfl (aU rfl) (an rfl (gE rfl) (an rfl (eI rfl) (dS rfl (rS rfl rfl ⟨fun _ hw=>ai.mem hw,?_⟩)))));refine an rfl (eI rfl) (al ?_);refine Gi ?_;exact bm (x:=(i,d)) (i+1,dK) ⟨oF,by rw[wu];exact oJ⟩ (by simp only;omega) (Sub.cons rfl (Sub.cons (look_eq rfl (by simp only[wu])) (Sub.cons rfl (Sub.cons (look_eq rfl (by simp only[wu])) (Sub.cons (look_eq rfl (by simp only[wu])) sb))))) (fun w hw=>ai.mem hw)
  have hq: ¬((bF y.xs).2=0/\((dw (aM l.xs) i).found=false\/(dw (aM l.xs) i).new.gen<=(bF y.xs).1.gen)):=fun hq=>by
   rw[←Ut,←Uu]at hq;rcases h1 with h|h
   ·
    exact h hq.1
   rcases hq.2 with g|g
   ·
    exact absurd (h.1.symm.trans g) (by simp)
   omega
  have wu:=R0 Us hq;refine al ?_;refine Gi ?_;exact bm (x:=(i,d)) (i+1,d) ⟨oF,by rw[wu];exact aH⟩ (by simp only;omega) (Sub.cons rfl (Sub.cons (look_eq rfl (by simp only[wu])) (Sub.cons rfl (Sub.cons (look_eq rfl (by simp only[wu])) (Sub.cons (look_eq rfl (by simp only[wu])) sb))))) (fun w hw=>ai.mem hw)
 obtain rfl:i=l.xs.length:=by omega
 rw[←iT]at aH;refine av ?_;refine Gb (fun h2=>?_) fun h2=>?_
 ·
  have hE:gw (aM l.xs)=((dw (aM l.xs) (aM l.xs).length).at_,(dw (aM l.xs) (aM l.xs).length).new,0):=by rw[gw,if_pos (by rw[iT];exact h2)]
  refine Gi ?_;refine jE [3] [[],[],[],[],[3]] [0,1,2,3,4] [aq b6 (eW d) 314] (fun _ hw=>ai.mem hw) oK oK (an rfl (aU rfl) (an rfl (gE rfl) (an rfl (eI rfl) (dS rfl (rS rfl rfl ⟨fun _ hw=>ai.mem hw,?_⟩)))));refine an rfl (eI rfl) (Gc ?_);refine Gr fun w1 hw=>?_;exact⟨d,by rw[hE,iT],by rw[hE];exact aH,ai.mem hw⟩
 refine av ?_;refine Gb (fun h3=>?_) fun h3=>?_
 ·
  have hE:gw (aM l.xs)=(0,iw,6):=by rw[gw,if_neg (by rw[iT,h2];simp),if_pos (by rw[iT];exact h3)]
  refine Gc ?_;refine ag (di (v:= .agg (eW mq)) rfl (fun w=>by kernel_rfl)) (av ?_);refine Gr fun w1 hw=>?_;exact⟨mq,by rw[hE],by rw[hE];rfl,Mem.dA bx 1 (ai.mem hw:Mem w [] _)⟩
 have hE:gw (aM l.xs)=(0,iw,2):=by rw[gw,if_neg (by rw[iT,h2];simp),if_neg (by rw[iT,h3];simp)]
 refine Gc ?_;refine ag (di (v:= .agg (eW mq)) rfl (fun w=>by kernel_rfl)) (av ?_);refine Gr fun w1 hw=>?_;exact⟨mq,by rw[hE],by rw[hE];rfl,Mem.dA bx 1 (ai.mem hw:Mem w [] _)⟩)⟩
theorem aeC(c:Cp)(s:Sl Int)(g:UInt64)(l:Int)(w:World):(Instr.build 63 #[(0, .agg (aS c)),(1,s.sv.val),(2, .int .u64 (g.toNat:Int)),(3, .int .i64 l)]).run Tryz.prog w= .ok (.agg (cr ⟨c,s,g,l⟩)) w:=by
 obtain⟨s,xs⟩:=s;obtain⟨a1,a2,⟨a3,a4⟩,a5,a6,⟨a7,a8⟩⟩:=c;unfold cr aS;obtain⟨e,b,o,l,c,p⟩:=s;obtain⟨e3,b3,o3,l3,c3,p3⟩:=a3;obtain⟨e7,b7,o7,l7,c7,p7⟩:=a7
 cases e<;>cases e3<;>cases e7<;>kernel_rfl
instance aqc{c:Cp}[hc:aT w0 L c]:bQ Tryz.prog 221 w0 L [.agg (aS c)] (cn) (fun zz=> .tuple #[.agg (cr zz), .int .i64 ((bG (cv c)).2)]) (fun zz=>own bx 1 zz.at_.sv zz.at_.xs::L) (fun zz=>vv zz=(bG (cv c)).1/\((bG (cv c)).2=0->zz.ae=c)) (True):=⟨fun aF w hw=>Gk (fun zz:cn=>[own bx 1 zz.at_.sv zz.at_.xs]) hw (by
 have hc:=hc.h w hw;have lD:cG w c:=⟨hc⟩;refine cD Tryz.func221 rfl Tryz.ntmps221 rfl ?_;refine Gc ?_;refine bN rfl fun b1=>bl fun b2=>ba ?_;refine Gb (fun h0=>?_) fun h0=>?_
 ·
  have hE:bG (cv c)=(lN,1):=by rw[bG,if_pos h0]
  have bM:(1:Int)≠0:=by decide
  refine Gc ?_;refine ag (di (v:= .agg (cr mr)) rfl (fun w=>by kernel_rfl)) (al ?_);refine Gr fun w1 hw=>?_;exact⟨mr,by rw[hE],⟨by rw[hE];rfl,fun h=>absurd (by rw[hE]at h;exact h) bM⟩,Mem.dA bx 1 (ai.mem hw:Mem w [] _)⟩
 have qp:=fX.1 h0;have hk:=qp.1;have pJ:(cv c).blocks.length=c.blocks.xs.length:=iq _;have iU:=mj.1 (fJ.1 hk).1;obtain⟨B0,BR⟩:=get_some (xs:=c.blocks.xs) (i:=0) oM;obtain⟨B1,uZ⟩:=get_some (xs:=c.blocks.xs) (i:=1) oM;have aeD:Mb B0 c.blocks:=⟨List.mem_of_getElem? BR⟩;have aeE:Mb B1 c.blocks:=⟨List.mem_of_getElem? uZ⟩;have o0:=(fm.1 ((fJ.1 hk).2.2.2.2 (bv B0) (alM (nH BR)))).1;have o1:=(fm.1 ((fJ.1 hk).2.2.2.2 (bv B1) (alM (nH uZ)))).1;have ME:=pt B0.pages.xs;have MF:=pt B1.pages.xs;simp only[bv,cv]at o0 o1 iU;have hT:aM (fQ [B0.pages,B1.pages])=(ak (cv c) 0).pages++(ak (cv c) 1).pages:=by
  rw[Lc,show ak (cv c) 0=bv B0 from Ld BR,show ak (cv c) 1=bv B1 from Ld uZ];rfl
 have lS:=Lb (l:=(ak (cv c) 0).pages++(ak (cv c) 1).pages) (by rw[←hT,Lc,af0];omega);have iT:((ak (cv c) 0).pages++(ak (cv c) 1).pages).length=B0.pages.xs.length+B1.pages.xs.length:=by rw[←hT,Lc,af0];omega
 have yj:0<=(bP (cv c)).1:=lS.1;have BN:(bP (cv c)).1<c.pages+c.pages:=by have:=lS.2;rw[iT]at this;change(bP (cv c)).1<_ at this;omega
 have gva:R8 w (fQ [B0.pages,B1.pages]):=⟨fun y hy=>by
  simp only[fQ,atq,aud,auw,av6,atK,as8]at hy;rcases hy with hy|hy
  ·
   exact(hc.1.2 B0 aeD.h).2 y hy
  exact(hc.1.2 B1 aeE.h).2 y hy⟩
 have aqd:0<=((bP (cv c)).1/c.pages):=avb yj oM;have aqe:((bP (cv c)).1/c.pages)<2:=Int.ediv_lt_of_lt_mul oM oM;have bD:=Sb ((ak (cv c) 0).pages++(ak (cv c) 1).pages);have Mx:(c.blocks.xs.getD ((bP (cv c)).1/c.pages).toNat qW).used=(ak (cv c) ((bP (cv c)).1/c.pages)).used:=congrArg BV.used (zw (c:=c));refine av ?_;refine Gb (fun h1=>?_) fun h1=>?_
 ·
  have hE:bG (cv c)=(lN,7):=by rw[bG,if_neg (by rw[h0];simp),if_pos (show(cv c).off=true from h1)]
  have bM:(7:Int)≠0:=by decide
  refine Gc ?_;refine ag (di (v:= .agg (cr mr)) rfl (fun w=>by kernel_rfl)) (al ?_);refine Gr fun w1 hw=>?_;exact⟨mr,by rw[hE],⟨by rw[hE];rfl,fun h=>absurd (by rw[hE]at h;exact h) bM⟩,Mem.dA bx 1 (ai.mem hw:Mem w [] _)⟩
 have rH: ¬(cv c).off=true:=by rw[show(cv c).off=c.off from rfl,h1];simp
 refine Gc ?_;refine vK [10,11,12,17,19,2010,2017,4011,4012] [[],[],[],[],[],[],[],[],[],[],[],[10],[10,11],[10,11,12],[10,11,12],[10,11,12],[10,11,12],[],[10,11,12,17],[10,11,12,17],[10,11,12,17,19]] [0,1,2,3,4,5,6,7,8,9,10,11,12,13,14,15,16,17,18,19,20] [aq b1 (aS c) 59] [(10,xC (cd (τ:=Sl UInt8)) 1 2 [B0.pages,B1.pages]),(17,pf Tryz.prog 314)] oK (fun _ hw=>ai.mem hw) oK oK (an rfl (aL (o':=2) rfl rfl) (an rfl (bO rfl) (an rfl (aX rfl rfl 0 rfl oM) (an rfl (aL rfl rfl) (an rfl (bL (j:=0) rfl 0 BR rfl (by decide)) (an rfl (aL (o':=2) rfl rfl) (an rfl (bO rfl) (an rfl (aX rfl rfl 1 rfl oM) (an rfl (aL rfl rfl) (an rfl (bL (j:=0) rfl 1 uZ rfl (by decide)) (uz (m:=xC (cd (τ:=Sl UInt8)) 1 2 [B0.pages,B1.pages]) rfl rfl (Qz (enc:=(cd (τ:=Sl UInt8))) (c:=1) (n:=2) (vals:=[B0.pages.sv.val,B1.pages.sv.val]) [B0.pages,B1.pages] rfl (by simp only[atq,aud,Sv.jC];rfl) rfl (by decide) (by decide)) (Cert.one (i:=17) rfl rfl rfl oc (Cert.none rfl)) fun HT=>?_)))))))))));change Ln _ _ _ _ _ _ _ _ (cB _ _ (Sv.val ⟨false,HT,0,2,2,none⟩)) (own (cd (τ:=Sl UInt8)) 1 ⟨false,HT,0,2,2,none⟩ [B0.pages,B1.pages]::_) _;refine zm (hc:=Un (a:=(⟨⟨false,HT,0,2,2,none⟩,[B0.pages,B1.pages]⟩:Sl (Sl (Sl UInt8))))) (Kz:=fun e_=>Un (a:=(⟨⟨false,HT,0,2,2,none⟩,[B0.pages,B1.pages]⟩:Sl (Sl (Sl UInt8))))) rfl rfl (by simp only[fQ,atq,aud,auw,av6,af0,as0];omega) (fun e x w hw=>ai.mem hw) (Cert.one (i:=17) rfl rfl rfl oc (Cert.none rfl)) fun sA u4=>⟨fun _ hw=>ai.mem hw,?_⟩;refine zm (hc:=Ur (l:=(⟨sA,(fQ [B0.pages,B1.pages])⟩:Sl (Sl UInt8)))) (Kz:=fun e_=>Ur (l:=(⟨sA,(fQ [B0.pages,B1.pages])⟩:Sl (Sl UInt8)))) rfl rfl trivial (fun e x w hw=>ai.mem hw) (Cert.one (i:=17) rfl rfl rfl oc (Cert.none rfl)) fun dK oJ=>⟨fun _ hw=>ai.mem hw,?_⟩;have gZ:(gw (aM (fQ [B0.pages,B1.pages]))).1=(bP (cv c)).1:=by rw[hT];rfl
 have MG:(gw (aM (fQ [B0.pages,B1.pages]))).2.2=(bP (cv c)).2.2:=by rw[hT];rfl
 have D5:dH dK=(bP (cv c)).2.1:=by rw[oJ,hT];rfl
 have pL:dK.gen.toNat=(bP (cv c)).2.1.gen:=congrArg RV.gen D5;have BB:dK.at_.xs=(bP (cv c)).2.1.at_:=congrArg RV.at_ D5;refine an rfl (aU rfl) (an rfl (aJ (v:= .int .i64 ((gw (aM (fQ [B0.pages,B1.pages]))).1)) rfl rfl) (an rfl (aJ (v:= .agg (eW dK)) rfl rfl) (an rfl (aJ (v:= .int .i64 ((gw (aM (fQ [B0.pages,B1.pages]))).2.2)) rfl rfl) (uz (m:=pf Tryz.prog 314) rfl rfl oc (Cert.none rfl) fun b5=>?_))));change Ln _ _ _ _ _ _ _ _ (cB _ _ (.pointer (some ⟨b5,0,none⟩))) (aq b5 (eW mq) 314::_) _;refine an rfl (eI rfl) (dS rfl (rS rfl rfl ⟨fun _ hw=>ai.mem hw,?_⟩));refine an rfl (eI rfl) (av ?_);refine Gb (fun h2=>?_) fun h2=>?_
 ·
  rw[MG]at h2;have hE:bG (cv c)=(lN,(bP (cv c)).2.2):=by rw[bG,if_neg (by rw[h0];simp),if_neg rH,if_pos h2]
  have bM:=h2;refine Gc ?_;refine ag (di (v:= .agg (cr mr)) rfl (fun w=>by kernel_rfl)) (av ?_);refine Gr fun w1 hw=>?_;exact⟨mr,by rw[hE,MG],⟨by rw[hE];rfl,fun h=>absurd (by rw[hE]at h;exact h) bM⟩,Mem.dA bx 1 (ai.mem hw:Mem w [] _)⟩
 rw[MG]at h2;refine av ?_;refine ag (mK rfl rfl oM oM) (aA ?_);refine gm oK oK (al ?_);refine bE (AB rfl rfl oM oM) (al ?_);refine bE (aX rfl rfl (((gw (aM (fQ [B0.pages,B1.pages]))).1/c.pages).toNat) (by rw[gZ];omega) (by rw[gZ];omega)) (bE (aL rfl rfl) (bE (bL (j:=1) rfl (((gw (aM (fQ [B0.pages,B1.pages]))).1/c.pages).toNat) (mN (xs:=c.blocks.xs) (i:=((gw (aM (fQ [B0.pages,B1.pages]))).1/c.pages).toNat) (d:=qW) (by rw[gZ];omega)) rfl (by decide)) (aA ?_)));refine eK rfl rfl rfl (fun hg=>(Ry.yl (gE rfl))) (aA ?_);refine eK rfl rfl rfl (fun hg=>cl (dy (az hg rfl) (dy (az hg rfl) gD)) ⟨hk,fun x hx=>bD x (by rw[BB]at hx;exact hx)⟩) (eK rfl rfl rfl (fun hg=>(Ry.yl (jM (az hg rfl)))) (aA ?_));refine Gb (fun h3=>?_) fun h3=>?_
 ·
  have uu:mS (cv c)=false:=by
   rw[BB]at h3
   cases uW:mS (cv c)with
   |false=>rfl
   |true=>
    simp only[mS,anc,decide_eq_true_eq]at uW;rw[uW.2]at h3;simp only[auR,or_false]at h3;have:=uW.1;rw[gZ,Mx]at h3;exact absurd this (by simp only[cv]at*;omega)
  have hE:bG (cv c)=(lN,2):=by rw[bG,if_neg (by rw[h0];simp),if_neg rH,if_neg oM,if_pos uu]
  have bM:(2:Int)≠0:=by decide
  refine Gc ?_;refine ag (di (v:= .agg (cr mr)) rfl (fun w=>by kernel_rfl)) (al ?_);refine Gr fun w1 hw=>?_;exact⟨mr,by rw[hE],⟨by rw[hE];rfl,fun h=>absurd (by rw[hE]at h;exact h) bM⟩,Mem.dA bx 1 (ai.mem hw:Mem w [] _)⟩
 have uu:mS (cv c)=true:=by
  rw[BB,gZ,Mx]at h3;simp only[mS,anc,decide_eq_true_eq];exact⟨by have:=h3.1;simp only[cv]at*;omega,h3.2⟩
 have hE:bG (cv c)=(⟨cv c,(bP (cv c)).2.1.at_,(bP (cv c)).2.1.gen,(bP (cv c)).1/c.pages⟩,0):=by rw[bG,if_neg (by rw[h0];simp),if_neg rH,if_neg oM,if_neg (by rw[uu];simp)];rfl
 refine dv ?_;refine ag (di (v:= .agg (cr ⟨c,dK.at_,dK.gen,((gw (aM (fQ [B0.pages,B1.pages]))).1/c.pages)⟩)) rfl (aeC c dK.at_ dK.gen ((gw (aM (fQ [B0.pages,B1.pages]))).1/c.pages))) (al ?_);refine Gr fun w1 hw=>?_;exact⟨⟨c,dK.at_,dK.gen,(gw (aM (fQ [B0.pages,B1.pages]))).1/c.pages⟩,by rw[hE],⟨by rw[hE];simp only[vv,BB,pL,gZ],fun _=>rfl⟩,ai.mem hw⟩)⟩
instance aqf{c:Cp}[hc:aT w0 L c]:bQ Tryz.prog 180 w0 L [.agg (aS c)] (cn) (fun zz=> .tuple #[.agg (cr zz), .int .i64 ((bG (cv c)).2)]) (fun zz=>fz zz.ae::own bx 1 zz.at_.sv zz.at_.xs::L) (fun zz=>vv zz=(if(bG (cv c)).2=0 then(bG (cv c)).1 else lN)) (True):=⟨fun aF w hw=>Gk (fun zz:cn=>[fz zz.ae,own bx 1 zz.at_.sv zz.at_.xs]) hw (by
 have hc:=hc.h w hw;have lD:cG w c:=⟨hc⟩;refine cD Tryz.func180 rfl Tryz.ntmps180 rfl ?_;refine Gc ?_;refine bN rfl fun b1=>bl fun b2=>al ?_;refine bj rfl trivial fun x8 sq=>?_;obtain⟨Uv,Uw⟩:=sq;have hl8:=Sd (cv c);have ha8:x8.at_.xs=(bG (cv c)).1.at_:=congrArg VV.at_ Uv;rw[←ha8]at hl8;refine Gs ?_;refine ag (aJ (v:= .agg (cr x8)) rfl rfl) (ag (aJ (v:= .int .i64 ((bG (cv c)).2)) rfl rfl) (bl fun b4=>ba ?_));refine Gb (fun h0=>?_) fun h0=>?_
 ·
  refine Gc ?_;refine ag (di (v:= .agg (cr mr)) rfl (fun w=>by kernel_rfl)) (av ?_);refine Gr fun w1 hw=>?_;exact⟨mr,rfl,by rw[if_neg h0];rfl,ab3 (Mem.dA bx 1 (ai.mem hw:Mem w [] _))⟩
 have z8:(bG (cv c)).2=0:=h0;have ec:Se x8.ae c:=⟨Uw z8⟩;have ng:gU x8.ae:=by rw[Uw z8];exact rX (fX.1 (Le z8)).1
 refine kZ ?_;refine um [Deep.ck x8.at_,aq b4 (cr x8) 63,aq b2 (cr mr) 63,aq b1 (aS c) 59] (fun w hw=>ai.mem (Mem.QS (ai.mem hw:Mem _ [own bx 1 x8.at_.sv x8.at_.xs,aq b4 (cr x8) 63,aq b2 (cr mr) 63,aq b1 (aS c) 59] _))) (Gi ?_);refine Gs ?_;refine bj rfl ⟨by assumption,by omega⟩ fun aE kP=>al ?_;refine Gr fun w1 hw=>?_;exact⟨(⟨aE.1,⟨aE.2,x8.at_.xs⟩,x8.gen,x8.last⟩:cn),by rw[z8],by
  rw[if_pos z8,←Uv];simp only[vv,kP],ai.mem hw⟩)⟩
instance aqg{v:cn}[hv:aT w0 L v]:cx Tryz.prog 173 w0 L [.agg (cr v)] (.bool (mw (vv v))) (True):=⟨fun aF w hw=>by
 have hv:=hv.h w hw;have D1:cG w v:=⟨hv⟩;refine cD Tryz.func173 rfl Tryz.ntmps173 rfl ?_;refine Gc ?_;refine bN rfl fun b1=>al ?_;refine ag (hK rfl) (bl fun b3=>al ?_);refine eU (cs':=aS (⟨v.ae.pages,v.ae.size,v.ae.blocks,v.ae.ops,false,v.ae.aV⟩:Cp)) rfl rfl (by show 4<6;decide) (by first|rfl|exact Sv.one _) rfl (aA ?_);refine bj rfl trivial fun dQ zZ=>?_;obtain⟨MH,aqh⟩:=zZ;have hvg:dQ.gen.toNat=(bG {(vv v).ae with off:=false}).1.gen:=congrArg VV.gen MH
 have BS:dQ.last=(bG {(vv v).ae with off:=false}).1.last:=congrArg VV.last MH
 have hva:dQ.at_.xs=(bG {(vv v).ae with off:=false}).1.at_:=congrArg VV.at_ MH
 refine Gs ?_;refine ag (aJ (v:= .agg (cr dQ)) rfl rfl) (ag (aJ (v:= .int .i64 ((bG (cv (⟨v.ae.pages,v.ae.size,v.ae.blocks,v.ae.ops,false,v.ae.aV⟩:Cp))).2)) rfl rfl) (bl fun b4=>aaj ?_));refine gG rfl rfl rfl (fun hg=>cl (dy (az hg rfl) (dy (az hg rfl) gD)) trivial) (al ?_);refine Gr fun w1 hw=>?_;exact⟨congrArg (fun b=>Ending.returned (Value.bool b)) ((by rw[show decide (((dQ.gen.toNat:Nat):Int)=((v.gen.toNat:Nat):Int))=decide (dQ.gen.toNat=v.gen.toNat)from decide_eq_decide.2 oM,mw,←hvg,←BS,←hva];rfl)),ai.mem hw⟩⟩
instance Ux{v:cn}{id:Int}[hv:aT w0 L v]:bQ Tryz.prog 347 w0 L [.agg (cr v), .int .i64 id] (Sv) (fun zz=>zz.val) (fun zz=>own aQ 1 zz (jm (cv v.ae) (v.at_.xs.getD id.toNat 0))::L) (fun zz=>True) (bb (cv v.ae)=true/\ ∃y,v.at_.xs[id.toNat]? =Option.some y/\0<=id/\1<=y/\y<=1000000/\2<=(y -1)/(cv v.ae).pages/\(y -1)/(cv v.ae).pages<((cv v.ae).blocks.length:Int)):=⟨fun aF w hw=>Gk (fun zz=>[own aQ 1 zz (jm (cv v.ae) (v.at_.xs.getD id.toNat 0))]) hw (by
 have hv:=hv.h w hw;have D1:cG w v:=⟨hv⟩;obtain⟨hk,y,hy,hid,HL,D6,g1,g2⟩:=aF;have pM:v.at_.xs.getD id.toNat 0=y:=qk hy;have dL:=(ad2.1 hy).1;have dX:=iq v.ae.blocks.xs;have iU:=mj.1 (fJ.1 hk).1;simp only[cv,dX]at iU;have D3:0<=((y -1)/v.ae.pages):=avb oM oM;have oE:0<=((y -1)%v.ae.pages):=ave _ oM;have nN:((y -1)%v.ae.pages)<v.ae.pages:=avj _ oM;have qp:=zw (c:=v.ae) (b:=((y -1)/v.ae.pages));change 2<=((y -1)/v.ae.pages)at g1;change((y -1)/v.ae.pages)<((jl v.ae.blocks.xs).length:Int)at g2;rw[dX]at g2;obtain⟨B,hB⟩:=get_some (xs:=v.ae.blocks.xs) (i:=((y -1)/v.ae.pages).toNat) oM;have tG:Mb B v.ae.blocks:=⟨List.mem_of_getElem? hB⟩;have fg:bv B=ak (cv v.ae) ((y -1)/v.ae.pages):=by rw[←qp];simp[List.getD,hB]
 have gM:=fm.1 ((fJ.1 hk).2.2.2.2 (bv B) (alM (nH hB)));have iT:=pt B.pages.xs;have D4:(B.pages.xs.length:Int)=v.ae.pages:=by have:=gM.1;simp only[bv,cv,iT]at this;exact this
 obtain⟨z,hz⟩:=get_some (xs:=B.pages.xs) (i:=((y -1)%v.ae.pages).toNat) oM;have yf:Mb z B.pages:=⟨List.mem_of_getElem? hz⟩;have rh:bK (cv v.ae) (y -1)=z.xs:=by
  show(ak (cv v.ae) ((y -1)/v.ae.pages)).pages.getD ((y -1)%v.ae.pages).toNat []=z.xs;rw[←fg];simp[bv,List.getD,qX hz]
 refine cQ Tryz.func347 rfl Tryz.ntmps347 rfl ?_;refine Gc ?_;refine bN rfl fun b2=>aN ?_;refine ag (aX rfl rfl id.toNat oM oM) (ag (bL (j:=0) rfl id.toNat hy rfl (by decide)) (al ?_));refine vK [18,22,23,2022,4018] [[],[],[],[],[],[],[],[],[],[],[],[],[],[],[],[],[],[],[],[18],[18],[18],[],[18,22],[18,22,23]] [0,1,2,3,4,5,6,7,8,9,10,11,12,13,14,15,16,17,18,19,20,21,22,23,24] [aq b2 (cr v) 63] [(22,pf Tryz.prog 324)] oK (fun _ hw=>ai.mem hw) oK oK (an rfl (aL (o':=0) rfl rfl) (an rfl (aL (o':=2) rfl rfl) (an rfl (bO rfl) (an rfl (aU rfl) (an rfl (aL (o':=0) rfl rfl) (an rfl (aL (o':=0) rfl rfl) (an rfl (bO rfl) (an rfl (mK rfl rfl oM oM) (an rfl (aX rfl rfl (((y -1)/v.ae.pages).toNat) oM oM) (an rfl (aL rfl rfl) (an rfl (bL (j:=0) rfl (((y -1)/v.ae.pages).toNat) hB rfl (by decide)) (an rfl (aU rfl) ?_))))))))))));refine an rfl (aL (o':=0) rfl rfl) (an rfl (aL (o':=0) rfl rfl) (an rfl (bO rfl) (an rfl (AB rfl rfl oM oM) (an rfl (aX rfl rfl (((y -1)%v.ae.pages).toNat) oM oM) (an rfl (bL (j:=0) rfl (((y -1)%v.ae.pages).toNat) hz rfl (by decide)) ?_)))));refine zm rfl rfl trivial (fun e x w hw=>ai.mem hw) (Cert.one (i:=22) rfl rfl rfl oc (Cert.none rfl)) fun kQ yk=>⟨fun _ hw=>ai.mem hw,?_⟩;have e1:kQ.body.xs=(cE z.xs).1.body:=congrArg PV.body yk;refine an rfl (aU rfl) (an rfl (aJ (v:= .agg (c8 kQ)) rfl rfl) (an rfl (aJ (v:= .int .i64 ((cE z.xs).2)) rfl rfl) (uz (m:=pf Tryz.prog 324) rfl rfl oc (Cert.none rfl) fun b6=>?_)));change Ln _ _ _ _ _ _ _ _ (cB _ _ (.pointer (some ⟨b6,0,none⟩))) (aq b6 (c8 pz) 324::_) _;refine dS rfl (rS rfl rfl ⟨fun _ hw=>ai.mem hw,?_⟩);refine an rfl (eI rfl) (av ?_);refine Gb (fun h0=>?_) fun h0=>?_
 ·
  have hE:(jm (cv v.ae) (v.at_.xs.getD id.toNat 0))=[]:=by rw[pM,jm,rh,if_neg h0]
  refine al ?_;refine Gr fun w1 hw=>?_;exact⟨Sv.none,rfl,trivial,by rw[hE];exact Mem.dA aQ 1 (ai.mem hw:Mem w [] _)⟩
 have z8:(cE z.xs).2=0:=h0;have hE:(jm (cv v.ae) (v.at_.xs.getD id.toNat 0))=kQ.body.xs:=by rw[pM,jm,rh,if_pos z8,e1]
 refine aN ?_;refine Gr fun w1 hw=>?_;exact⟨kQ.body.sv,rfl,trivial,by rw[hE];exact ai.mem hw⟩)⟩
instance aqi{x:fo}{n:Int}[hx:aT w0 L x]:bQ Tryz.prog 255 w0 L [.agg (c8 x), .int .i64 n] (Sv) (fun zz=> .tuple #[zz.val, .int .i64 ((dn (cR x) n).2)]) (fun zz=>own aQ 1 zz (dn (cR x) n).1::L) (fun zz=>True) (True):=⟨fun aF w hw=>Gk (fun zz=>[own aQ 1 zz (dn (cR x) n).1]) hw (by
 have hx:=hx.h w hw;have BL:cG w x:=⟨hx⟩;refine cQ Tryz.func255 rfl Tryz.ntmps255 rfl ?_;refine Gc ?_;refine bN rfl fun b2=>fk ?_;refine Gb (fun h0=>?_) fun h0=>?_
 ·
  have hE:dn (cR x) n=([],1):=by rw[dn,if_neg (by rw[h0];simp)]
  refine av ?_;refine Gr fun w1 hw=>?_;exact⟨Sv.none,by rw[hE];rfl,trivial,by rw[hE];exact Mem.dA aQ 1 (ai.mem hw:Mem w [] _)⟩
 have hE:dn (cR x) n=((jT (cR x) n.toNat)++be (po (jT (cR x) n.toNat)) 4,0):=by rw[dn,if_pos h0]
 obtain⟨m1,m2,m3,m4,m5,m6⟩:=rZ.1 h0;have hft:=te.1 m1;have D2:dU n=n -16:=by rw[dU,if_pos m1]
 simp only[cR]at m2 m3 m4 m5 m6;have QQ:(List.replicate (n.toNat -4) (0:UInt8)).length=n.toNat -4:=atT;have dX:x.body.xs.length+16<=n.toNat:=by omega
 have hg6:=jP x.gen.toNat 6;have nf:=jP x.body.xs.length 2;have qL:=KL (jT (cR x) n.toNat);have bX:(jT (cR x) n.toNat).length=n.toNat -4:=abU (by simp only[cR];omega);refine al ?_;refine ui (enc:=aQ) (n:=(n.toNat -4)) (cap:=(n.toNat -4)) 0 rfl rfl rfl oM oM oM oM oM fun jZ=>Gs ?_;refine kZ ?_;have D7:=G3 (b:=jZ) (n:=(n.toNat -4)) oM;refine jE [9,11] [[],[],[],[],[],[],[],[],[],[],[9],[9]] [0,1,2,3,4,5,6,7,8,9,10,11] [aq b2 (c8 x) 324] (fun _ hw=>ai.mem hw) oK oK (an rfl (aU rfl) (an rfl (aU rfl) (an rfl (aL (o':=0) rfl rfl) (an rfl (bO rfl) (an rfl (vq rfl (Bh _)) (an rfl (aL (o':=1) rfl rfl) (an rfl (bO rfl) (an rfl (vq rfl (Bh _)) (an rfl (nU (s:=⟨false,jZ,0,(n.toNat -4),(n.toNat -4),none⟩) (i:=0) rfl rfl rfl D7 (by simp only;omega)) (dS rfl (xA (s:=⟨false,jZ,0,(n.toNat -4),(n.toNat -4),none⟩) (n:=1) (k:=0) (j:=0) (a:=0) (a':=cW x.kind) (xs:=(List.replicate (n.toNat -4) (0:UInt8))) (enc:=aQ) (c:=1) (v:= .int .u8 (cW x.kind).toNat) oK rfl rfl rfl (by rw[avC,if_pos oM]) (by simp[Value.cells,Value.oneCell']) rfl oM (by rfl) ⟨fun _ hw=>ai.mem hw,?_⟩)))))))))));refine an rfl (nU (s:=⟨false,jZ,0,(n.toNat -4),(n.toNat -4),none⟩) (i:=1) rfl rfl rfl D7 (by simp only;omega)) (dS rfl (xA (s:=⟨false,jZ,0,(n.toNat -4),(n.toNat -4),none⟩) (n:=1) (k:=1) (j:=0) (a:=0) (a':=cW x.id) (xs:=((List.replicate (n.toNat -4) (0:UInt8)).set 0 (cW x.kind))) (enc:=aQ) (c:=1) (v:= .int .u8 (cW x.id).toNat) oK rfl rfl rfl (by rw[att (by decide),avC,if_pos oM]) (by simp[Value.cells,Value.oneCell']) rfl oM (by rfl) ⟨fun _ hw=>ai.mem hw,?_⟩));refine kZ ?_;refine um [own aQ 1 ⟨false,jZ,0,(n.toNat -4),(n.toNat -4),none⟩ ([cW x.kind,cW x.id]++List.replicate ((n.toNat -4) -2) (0:UInt8)),aq b2 (c8 x) 324] (fun w hw=>by
  rw[abT oM]at hw;exact ai.mem hw) ?_
 refine jE [4,5] [[],[],[],[],[],[4]] [0,1,2,3,4,5] [aq b2 (c8 x) 324] (fun _ hw=>ai.mem hw) oK oK (an rfl (aU rfl) ?_);have aeF:Rg 2 8 (List.replicate (n.toNat -4) (0:UInt8)).length:=⟨by omega⟩;refine an rfl (Fx (s:=⟨false,jZ,0,(n.toNat -4),(n.toNat -4),none⟩) (l:=2) (h:=8) rfl rfl rfl rfl rfl D7 oM (by simp only;omega)) (an rfl (aL (o':=2) rfl rfl) (an rfl (bO rfl) (dS rfl (qd (vs:=[_, .int .i64 ((6:Nat):Int)]) rfl ⟨by omega,by omega,by omega⟩ fun dK oJ=>⟨fun _ hw=>ai.mem hw,?_⟩))));refine dS rfl (KZ (D:=Sv.sub ⟨false,jZ,0,(n.toNat -4),(n.toNat -4),none⟩ 1 2 8) (S:=dK) (rm:=⟨false,jZ,0,(n.toNat -4),(n.toNat -4),none⟩) (k:=2) (xs:=([cW x.kind,cW x.id]++List.replicate ((n.toNat -4) -2) (0:UInt8))) (ys:=(be x.gen.toNat 6)) rfl rfl rfl rfl (by simp only[Sv.sub];rw[if_neg oM]) rfl (by decide) rfl (by simp only[Sv.sub,jP];omega) (by simp only[af0,jP,atT,asZ,as0];omega) ⟨fun _ hw=>ai.mem hw,?_⟩);refine kZ ?_;refine um [own aQ 1 ⟨false,jZ,0,(n.toNat -4),(n.toNat -4),none⟩ ([cW x.kind,cW x.id]++(be x.gen.toNat 6)++List.replicate ((n.toNat -4) -2 -(be x.gen.toNat 6).length) (0:UInt8)),aq b2 (c8 x) 324] (fun w hw=>by
  rw[K9 (A:=[cW x.kind,cW x.id]) (k:=2) rfl]at hw;exact ai.mem hw) ?_
 refine jE [6,7] [[],[],[],[],[],[],[],[6]] [0,1,2,3,4,5,6,7] [aq b2 (c8 x) 324] (fun _ hw=>ai.mem hw) oK oK (an rfl (aU rfl) ?_);have aqj:Rg 8 10 (List.replicate (n.toNat -4) (0:UInt8)).length:=⟨by omega⟩;refine an rfl (Fx (s:=⟨false,jZ,0,(n.toNat -4),(n.toNat -4),none⟩) (l:=8) (h:=10) rfl rfl rfl rfl rfl D7 oM (by simp only;omega)) (an rfl (aL (o':=3) rfl rfl) (an rfl (bO rfl) (an rfl (qN rfl) (an rfl (kE rfl (by simp only[nb];omega)) (dS rfl (qd (vs:=[_, .int .i64 ((2:Nat):Int)]) rfl ⟨by omega,by omega,by omega⟩ fun x36 aqk=>⟨fun _ hw=>ai.mem hw,?_⟩))))));refine dS rfl (KZ (D:=Sv.sub ⟨false,jZ,0,(n.toNat -4),(n.toNat -4),none⟩ 1 8 10) (S:=x36) (rm:=⟨false,jZ,0,(n.toNat -4),(n.toNat -4),none⟩) (k:=8) (xs:=([cW x.kind,cW x.id]++(be x.gen.toNat 6)++List.replicate ((n.toNat -4) -2 -(be x.gen.toNat 6).length) (0:UInt8))) (ys:=(be x.body.xs.length 2)) rfl rfl rfl rfl (by simp only[Sv.sub];rw[if_neg oM]) rfl (by decide) rfl (by simp only[Sv.sub,jP];omega) (by simp only[af0,jP,atT,asZ,as0];omega) ⟨fun _ hw=>ai.mem hw,?_⟩);refine kZ ?_;refine um [own aQ 1 ⟨false,jZ,0,(n.toNat -4),(n.toNat -4),none⟩ ([cW x.kind,cW x.id]++(be x.gen.toNat 6)++(be x.body.xs.length 2)++List.replicate ((n.toNat -4) -2 -(be x.gen.toNat 6).length -(be x.body.xs.length 2).length) (0:UInt8)),aq b2 (c8 x) 324] (fun w hw=>by
  rw[K9 (A:=[cW x.kind,cW x.id]++(be x.gen.toNat 6)) (k:=8) (by simp[jP])]at hw;exact ai.mem hw) ?_
 refine jE [4] [[],[],[],[],[]] [0,1,2,3,4] [aq b2 (c8 x) 324] (fun _ hw=>ai.mem hw) oK oK (an rfl (aU rfl) ?_);have aql:Rg 10 ((List.replicate (n.toNat -4) (0:UInt8)).length) (List.replicate (n.toNat -4) (0:UInt8)).length:=⟨by omega⟩;refine an rfl (ug (s:=⟨false,jZ,0,(n.toNat -4),(n.toNat -4),none⟩) (l:=10) (n:=(n.toNat -4)) rfl rfl rfl D7 rfl oM) (an rfl (aL (o':=3) rfl rfl) (an rfl (bO rfl) ?_));refine dS rfl (KZ (D:=Sv.sub ⟨false,jZ,0,(n.toNat -4),(n.toNat -4),none⟩ 1 10 (n.toNat -4)) (S:=x.body.sv) (rm:=⟨false,jZ,0,(n.toNat -4),(n.toNat -4),none⟩) (k:=10) (xs:=([cW x.kind,cW x.id]++(be x.gen.toNat 6)++(be x.body.xs.length 2)++List.replicate ((n.toNat -4) -2 -(be x.gen.toNat 6).length -(be x.body.xs.length 2).length) (0:UInt8))) (ys:=x.body.xs) rfl rfl rfl rfl (by simp only[Sv.sub];rw[if_neg oM]) rfl (by decide) rfl (by simp only[Sv.sub,jP];omega) (by simp only[af0,jP,atT,asZ,as0];omega) ⟨fun _ hw=>ai.mem hw,?_⟩);refine kZ ?_;refine um [own aQ 1 ⟨false,jZ,0,(n.toNat -4),(n.toNat -4),none⟩ (jT (cR x) n.toNat),aq b2 (c8 x) 324] (fun w hw=>by
  rw[K9 (A:=[cW x.kind,cW x.id]++(be x.gen.toNat 6)++(be x.body.xs.length 2)) (k:=10) (by simp[jP]),show([cW x.kind,cW x.id]++(be x.gen.toNat 6)++(be x.body.xs.length 2)++x.body.xs++List.replicate ((n.toNat -4) -2 -(be x.gen.toNat 6).length -(be x.body.xs.length 2).length -x.body.xs.length) (0:UInt8))=(jT (cR x) n.toNat)from by
   simp only[jT,cR,jP];congr 2<;>omega]at hw
  exact ai.mem hw) ?_
 refine Gi ?_;refine al ?_;refine ag (kE rfl (by simp only[nb];omega)) (bj (vs:=[_, .int .i64 ((4:Nat):Int)]) rfl ⟨by omega,by omega,by omega⟩ fun lX ym=>?_);refine mc (enc:=(cd (τ:=UInt8))) [(⟨⟨false,jZ,0,(n.toNat -4),(n.toNat -4),none⟩,(jT (cR x) n.toNat)⟩:Sl UInt8),⟨lX,be (po (jT (cR x) n.toNat)) 4⟩] (vals:=[(⟨false,jZ,0,(n.toNat -4),(n.toNat -4),none⟩:Sv).val,lX.val]) rfl (by simp only[atq,aud,Sv.jC];rfl) rfl (by decide) (by decide) fun b48=>?_;refine aaE (τ:=Sl UInt8) (xs:=[(⟨⟨false,jZ,0,(n.toNat -4),(n.toNat -4),none⟩,(jT (cR x) n.toNat)⟩:Sl UInt8),⟨lX,be (po (jT (cR x) n.toNat)) 4⟩]) fun a48 KG g48=>?_;have Uy:k8 a48.xs=(dn (cR x) n).1:=by rw[KG,hE];simp[k8]
 have hf9:(dn (cR x) n).1.length<=1000:=by rw[hE,af0,jP];omega
 refine bj rfl (by rw[Uy];omega) fun x49 aqm=>al ?_;refine Gr fun w1 hw=>?_;exact⟨x49,by rw[hE],trivial,by rw[←Uy];exact ai.mem hw⟩)⟩
theorem aeG(i:Int)(g:UInt64)(w:World):(Instr.build 324 #[(0, .int .i64 2),(1, .int .i64 i),(2, .int .u64 (g.toNat:Int))]).run Tryz.prog w= .ok (.agg (c8 ⟨2,i,g,⟨Sv.none,[]⟩⟩)) w:=by
 unfold c8;kernel_rfl
instance aqn{r:dE}{n:Int}[hr:aT w0 L r]:bQ Tryz.prog 218 w0 L [.agg (eW r), .int .i64 n] (Sv) (fun zz=> .tuple #[zz.val, .int .i64 ((cZ (dH r) n).2)]) (fun zz=>own aQ 1 zz (cZ (dH r) n).1::L) (fun zz=>True) (True):=⟨fun aF w hw=>Gk (fun zz=>[own aQ 1 zz (cZ (dH r) n).1]) hw (by
 have hr:=hr.h w hw;have ghr:cG w r:=⟨hr⟩;have jk:=hr.1.bd;refine cQ Tryz.func218 rfl Tryz.ntmps218 rfl ?_;refine Gc ?_;refine bN rfl fun b2=>fk ?_;refine Gb (fun h0=>?_) fun h0=>?_
 ·
  have hE:cZ (dH r) n=([],1):=by rw[cZ,if_neg (by rw[h0];simp)]
  refine av ?_;refine Gr fun w1 hw=>?_;exact⟨Sv.none,by rw[hE];rfl,trivial,by rw[hE];exact Mem.dA aQ 1 (ai.mem hw:Mem w [] _)⟩
 have hE:cZ (dH r) n=dn (⟨2,(max 0 (r.at_.xs.length -1:Int)),r.gen.toNat,hQ r.at_.xs⟩:PV) n:=by rw[cZ,if_pos h0];rfl
 obtain⟨m1,m2,m3,m4⟩:=xK.1 h0;have hmf:kI n<=64:=by rw[kI];omega
 simp only[dH]at m2 m3 m4;refine aN ?_;refine ag (w7 rfl rfl) (aA ?_);refine ag (di (v:= .agg (c8 (⟨2,(max 0 (r.at_.xs.length -1:Int)),r.gen,⟨Sv.none,[]⟩⟩:fo))) rfl (aeG _ r.gen)) (bl fun b6=>dv ?_);refine bR (X:=Nat×Sv) (fun zz=>[(24, .int .i64 (zz.1:Nat)),(6, .pointer (some ⟨b6,0,none⟩)),(1, .int .i64 n),(22,r.at_.sv.val),(23, .int .i64 (r.at_.xs.length:Nat))]) (fun zz=>[aq b6 (c8 (⟨2,(max 0 (r.at_.xs.length -1:Int)),r.gen,⟨zz.2,hQ (r.at_.xs.take zz.1)⟩⟩:fo)) 324,own aQ 1 zz.2 (hQ (r.at_.xs.take zz.1)),aq b2 (eW r) 314]) (fun zz=>zz.1<=r.at_.xs.length) (fun zz=>r.at_.xs.length -zz.1) (0,Sv.none) (atv _) sb (fun w hw=>by
  simp only[atH,hQ,aud,av6];exact ai.mem (Mem.dA aQ 1 hw)) ?_
 rintro⟨i,s1⟩ bg;dsimp only;simp only at bg;refine al ?_;refine Gb (fun h1=>?_) fun h1=>?_
 ·
  obtain⟨y,hy⟩:=get_some (xs:=r.at_.xs) (i:=i) oM;have Mu:=Dy.1 (m4 y (alM hy));have fv:hQ (r.at_.xs.take (i+1))=hQ (r.at_.xs.take i)++[cW (y/256),cW y]:=abW hy;have tI:=Bj (r.at_.xs.take i);have hnt:(r.at_.xs.take i).length<=64:=by rw[as6];omega
  refine Gc ?_;refine ag (aX rfl rfl i rfl oM) (ag (bL (j:=0) rfl i hy rfl (by decide)) (aN ?_));refine ag (Ry.to (v':= .int .i64 (y/256)) (w8 (p:=y.toNat) (Eq.trans (b:=some (Value.int .i64 y)) rfl (by rw[aub Mu.1])) rfl (by simp only[nb];omega) oM) (by rw[show(8:Int).toNat=8 from rfl];congr 1;omega)) (ag (vq rfl (Bh _)) (Gs ?_));refine ag (vq rfl (Bh _)) ?_;refine mc (enc:=aQ) (vals:=[_,_]) [(cW (y/256)),(cW y)] rfl rfl rfl (by decide) (by decide) fun Uz=>?_;refine kV (s:=s1) (ys:=[(cW (y/256)),(cW y)]) rfl rfl (by decide) (fun w hw=>jN (s:=⟨false,Uz,0,2,2,none⟩) Tryz.underlying53 (by decide) ((inferInstance:Hd _ _ ⟨false,Uz,0,2,2,none⟩ aQ 1 [(cW (y/256)),(cW y)]).h w hw)) (by simp only[asZ,as0];omega) (by simp only[asZ,as0];omega) fun UA aqo aqp=>?_;refine Gs ?_;refine eU (cs':=c8 (⟨2,(max 0 (r.at_.xs.length -1:Int)),r.gen,⟨UA,((hQ (r.at_.xs.take i))++[(cW (y/256)),(cW y)])⟩⟩:fo)) rfl rfl (by show 3<4;decide) (by first|rfl|exact Sv.one _) rfl (al ?_);refine Gi ?_;exact bm (x:=(i,s1)) (i+1,UA) (by simp only;omega) (by simp only;omega) sb (fun w hw=>by
   simp only[fv];exact ai.mem hw)
 obtain rfl:i=r.at_.xs.length:=by omega
 rw[atr];refine od ?_;refine um [Deep.ck (⟨s1,hQ r.at_.xs⟩:Sl UInt8),aq b6 (c8 (⟨2,(max 0 (r.at_.xs.length -1:Int)),r.gen,⟨s1,hQ r.at_.xs⟩⟩:fo)) 324] (fun w hw=>ai.mem (Mem.QS (ai.mem hw:Mem _ [own aQ 1 s1 (hQ r.at_.xs),aq b6 (c8 (⟨2,(max 0 (r.at_.xs.length -1:Int)),r.gen,⟨s1,hQ r.at_.xs⟩⟩:fo)) 324] _))) (Gi ?_);refine aA ?_;refine bj rfl trivial fun ju MI=>ag (aJ (v:=ju.val) rfl rfl) (ag (aJ (v:= .int .i64 ((dn (cR (⟨2,(max 0 (r.at_.xs.length -1:Int)),r.gen,⟨s1,hQ r.at_.xs⟩⟩:fo)) n).2)) rfl rfl) (al ?_));refine Gr fun w1 hw=>?_;exact⟨ju,by rw[hE];rfl,trivial,by
  have h1:Mem w [own aQ 1 ju (dn (cR (⟨2,(max 0 (r.at_.xs.length -1:Int)),r.gen,⟨s1,hQ r.at_.xs⟩⟩:fo)) n).1] _:=ai.mem hw;rw[hE];exact h1⟩)⟩
end Go.Proofs.YtkggjjnhnjjokaaGreatDoor
