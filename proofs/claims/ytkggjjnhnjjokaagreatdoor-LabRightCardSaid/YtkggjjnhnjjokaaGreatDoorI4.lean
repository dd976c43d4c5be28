/- Laws and walks by which the law LabRight is proved, each with its own conditions. -/
import Derived.Test.YtkggjjnhnjjokaaGreatDoorI1
import Derived.Test.YtkggjjnhnjjokaaGreatDoorI2
import Derived.Lib.BytesEntry
import Derived.Test.YtkggjjnhnjjokaaGreatDoorI3
import Derived.Lib.ReflectliteSwap
set_option maxRecDepth 20000
set_option linter.unusedSimpArgs false
set_option linter.unusedVariables false
namespace Go.ay
def rT:Nat->Value->Value->Prop
 |0, .int k _, .int k' _=>k=k'
 |1, .bool _, .bool _=>True
 |2, .string _, .string _=>True
 |_,_,_=>False
def oS:Value->Bool
 | .agg _=>true
 |_=>false
def yC(P:Program)(d:Nat)(t:TypeId)(jb:Bool)(ks:List Nat):Prop:=
 ∀(w:World) (x y:Value),oS x=jb->oS y=jb->x.cells.size=ks.length->y.cells.size=ks.length->
  (∀(i k:Nat),ks[i]? =some k-> ∃u v,x.cells[i]? =some u/\y.cells[i]? =some v/\rT k u v)->
  ∃r:Bool,(Op.equalIn d t x y).run P w= .ok r w/\(r=true↔ ∀i,i<ks.length->x.cells[i]? =y.cells[i]?)
section
variable {P:Program} {d:Nat} {t:TypeId}
theorem cells_one{x:Value}(h:oS x=false):x.cells= #[x]:=by
 cases x<;>simp_all[oS,Value.cells]
theorem HC{q:IntKind}(hu:P.underlying t=some (.int q)):yC P (d+1) t false [0]:=fun w x y hx hy _ _ hk=>by
 obtain⟨u,v,h1,h2,h3⟩:=hk 0 0 rfl;rw[cells_one hx]at h1⊢;rw[cells_one hy]at h2⊢;simp at h1 h2;subst h1 h2
 cases x<;>cases y<;>simp only[rT]at h3
 subst h3;exact⟨_,run_equalIn_int w d t _ q _ _ hu,by simp⟩
theorem Om{e:TypeId}{jb:Bool}{n:Nat}(hA: ∃de,P.underlying e=some de/\tZ de=jb)(hn:(P.info? e).map (·.size)=some n)(h1:jb=false->n=1)
  {xs:Array Value} {off:Nat} (bx:off+n<=xs.size) (hp: ∀i u,off<=i->i<off+n->xs[i]? =some u->oS u=false) (w:World):
  ∃a,(part e xs off).run P w= .ok a w/\oS a=jb/\a.cells.size=n/\ ∀i,i<n->a.cells[i]? =xs[off+i]? :=by
 obtain⟨de,hu,hr⟩:=hA
 cases jb with
 |true=>
  refine⟨.agg (xs.extract off (off+n)),?_,rfl,by simp[Value.cells];omega,fun i hi=>?_⟩
  ·
   simp only[part,Sem.run_bind,zo w hu,hr,Result.andThen_ok,if_true,jW w hn,Sem.run_pure]
  ·
   simp[Value.cells,Array.getElem?_extract];intro h;omega
 |false=>
  have:=h1 rfl;subst this;have hx:xs[off]? =some xs[off]:=by simp[show off<xs.size by omega]
  have HD:=hp off _ (amz _) (by omega) hx;refine⟨xs[off],?_,HD,by rw[cells_one HD];rfl,fun i hi=>?_⟩
  ·
   simp only[part,Sem.run_bind,zo w hu,hr,Result.andThen_ok,hx,anw,if_false,Sem.run_pure]
  ·
   obtain rfl:i=0:=by omega
   rw[cells_one HD,anA,hx];rfl
theorem On{k:Nat}{u v:Value}(h:rT k u v):oS u=false/\oS v=false:=by
 unfold rT at h;split at h<;>simp_all[oS]
structure qv(P:Program)(d:Nat)(e:TypeId)(jb:Bool)(ks:List Nat):Prop where
 row: ∃de,P.underlying e=some de/\tZ de=jb
 size:(P.info? e).map (·.size)=some ks.length
 one:jb=false->ks.length=1
 eq:yC P d e jb ks
theorem Oo{e:TypeId}{jb:Bool}{ks:List Nat}(he:qv P d e jb ks){xs ys:Array Value}{off:Nat}(hx:off+ks.length<=xs.size)(hy:off+ks.length<=ys.size)
  (hk: ∀(i k:Nat),ks[i]? =some k-> ∃u v,xs[off+i]? =some u/\ys[off+i]? =some v/\rT k u v) (w:World):
  ∃a b r,(part e xs off).run P w= .ok a w/\(part e ys off).run P w= .ok b w/\(Op.equalIn d e a b).run P w= .ok r w/\(r=true↔ ∀i,i<ks.length->xs[off+i]? =ys[off+i]?):=by
 have plain: ∀i,off<=i->i<off+ks.length-> ∃u v k,xs[i]? =some u/\ys[i]? =some v/\rT k u v:=fun i h1 h2=>by
  obtain⟨u,v,h3,h4,h5⟩:=hk (i -off) _ (amG (by omega));rw[show off+(i -off)=i by omega]at h3 h4;exact⟨u,v,_,h3,h4,h5⟩
 obtain⟨a,a1,a2,a3,a4⟩:=Om he.row he.size he.one hx (fun i u h1 h2 h3=>by
  obtain⟨u',v,k,h4,h5,h6⟩:=plain i h1 h2;rw[h4]at h3;cases h3;exact(On h6).1) w
 obtain⟨b,b1,b2,b3,b4⟩:=Om he.row he.size he.one hy (fun i u h1 h2 h3=>by
  obtain⟨u',v,k,h4,h5,h6⟩:=plain i h1 h2;rw[h5]at h3;cases h3;exact(On h6).2) w
 obtain⟨r,r1,r2⟩:=he.eq w a b a2 b2 a3 b3 (fun i k nI=>by
  obtain⟨u,v,h1,h2,h3⟩:=hk i k nI;have hi:i<ks.length:=(zz.1 nI).1;exact⟨u,v,by rw[a4 i hi];exact h1,by rw[b4 i hi];exact h2,h3⟩)
 refine⟨a,b,r,a1,b1,r1,r2.trans ⟨fun h i hi=>?_,fun h i hi=>?_⟩⟩
 ·
  rw[←a4 i hi,←b4 i hi];exact h i hi
 ·
  rw[a4 i hi,b4 i hi];exact h i hi
theorem Oq{e:TypeId}{jb:Bool}{ks:List Nat}(he:qv P d e jb ks){xs ys:Array Value}(w:World): ∀(is:List Nat),
  (∀j∈is,j*ks.length+ks.length<=xs.size/\j*ks.length+ks.length<=ys.size/\ ∀(i k:Nat),ks[i]? =some k-> ∃u v,xs[j*ks.length+i]? =some u/\ys[j*ks.length+i]? =some v/\rT k u v)->
  ∃r:Bool,(Op.eqItems d e ks.length xs ys is).run P w= .ok r w/\(r=true↔ ∀j∈is,∀i,i<ks.length->xs[j*ks.length+i]? =ys[j*ks.length+i]?)
 |[],_=>⟨true,by simp[Op.eqItems],by simp⟩
 |j::is,h=>by
  obtain⟨h1,h2,h3⟩:=h j (by simp);obtain⟨a,b,r,p1,p2,p3,tv⟩:=Oo he h1 h2 h3 w;obtain⟨r',HE,HF⟩:=Oq he w is (fun j' jU=>h j' (by simp[jU]));simp only[Op.eqItems,Sem.run_bind,p1,p2,p3,Result.andThen_ok]
  cases r
  ·
   refine⟨false,by simp,?_⟩;simp only[anw,false_iff];intro e;exact absurd (tv.2 (e j (by simp))) (by simp)
  ·
   refine⟨r',by simpa using HE,?_⟩;rw[HF];have:=tv.1 rfl;constructor
   ·
    intro e j' jU;rcases amA.1 jU with rfl|jU
    ·
     exact this
    ·
     exact e j' jU
   ·
    intro e j' jU;exact e j' (by simp[jU])
theorem xY{ks:List Nat}: ∀{n j i:Nat},j<n->i<ks.length->(List.replicate n ks).flatten[j*ks.length+i]? =ks[i]?
 |0,j,i,h,_=>by omega
 |n+1,0,i,_,hi=>by
  rw[aoA,anr,Nat.zero_mul,amX,amC hi]
 |n+1,j+1,i,h,hi=>by
  rw[aoA,anr,amw (by rw[amI];omega),amI,show j*ks.length+1*ks.length+i -ks.length=j*ks.length+i by omega];exact xY (by omega) hi
theorem Xw{e:TypeId}{n:Nat}{jb:Bool}{ks:List Nat}(hu:P.underlying t=some (.array n e))(he:qv P d e jb ks):yC P (d+1) t true (List.replicate n ks).flatten:=fun w x y hx hy sx sy hk=>by
 cases x<;>simp only[oS,anw]at hx
 cases y<;>simp only[oS,anw]at hy
 rename_i xs ys;simp only[Value.cells]at sx sy hk⊢;have hl:(List.replicate n ks).flatten.length=n*ks.length:=by simp
 rw[hl]at sx sy⊢;obtain⟨i,hi⟩: ∃i,P.info? e=some i:=by
  cases h:P.info? e with
  |none=>have:=he.size;simp[h]at this
  |some i=>exact⟨i,rfl⟩
 have hc:P.cellsOf e=ks.length:=by have:=he.size;simp[Program.cellsOf,hi]at this⊢;exact this
 have bound: ∀j,j<n->j*ks.length+ks.length<=n*ks.length:=fun j hj=>by
  rw[←Nat.succ_mul];exact amy _ hj
 obtain⟨r,hr,tv⟩:=Oq he (xs:=xs) (ys:=ys) w (List.range n) (fun j hj=>by
  have jU:=anc.1 hj;have:=bound j jU;refine⟨by omega,by omega,fun i k nI=>?_⟩;have hK:i<ks.length:=(zz.1 nI).1;exact hk (j*ks.length+i) k (by rw[xY jU hK];exact nI))
 refine⟨r,by rw[run_equalIn_array w d xs ys hu hi,hc];exact hr,tv.trans ⟨fun h q hq=>?_,fun h j hj i hi=>?_⟩⟩
 ·
  have wx:0<ks.length:=by
   rcases anW ks.length with h0|h0
   ·
    rw[h0]at hq;omega
   exact h0
  have h1:q/ks.length<n:=Nat.div_lt_of_lt_mul (by rw[anv];exact hq);have h2:=h (q/ks.length) (anc.2 h1) (q%ks.length) (an1 _ wx);rw[Nat.div_add_mod']at h2;exact h2
 have:=bound j (anc.1 hj);exact h _ (by omega)
def Dx(P:Program)(d:Nat):Nat->List Field->List Nat->Prop
 |_,[],ks=>ks=[]
 |off,f::fs,ks=>f.name≠ "_" ∧f.offset=off∧ ∃jb k1 k2,ks=k1++k2∧qv P d f.type jb k1∧Dx P d (off+k1.length) fs k2
theorem Ot{xs ys:Array Value}(w:World): ∀(fs:List Field) (off:Nat) (ks:List Nat),Dx P d off fs ks->off+ks.length<=xs.size->off+ks.length<=ys.size->
  (∀(i k:Nat),ks[i]? =some k-> ∃u v,xs[off+i]? =some u/\ys[off+i]? =some v/\rT k u v)->
  ∃r:Bool,(Op.eqFields d xs ys fs).run P w= .ok r w/\(r=true↔ ∀i,i<ks.length->xs[off+i]? =ys[off+i]?)
 |[],off,ks,h,_,_,_=>by
  simp only[Dx]at h;subst h;exact⟨true,by simp[Op.eqFields],by simp⟩
 |f::fs,off,ks,h,hx,hy,hk=>by
  obtain⟨hn,ho,jb,k1,k2,rfl,hp,Cu⟩:=h;simp only[adr]at hx hy;obtain⟨a,b,r,p1,p2,p3,tv⟩:=Oo hp (xs:=xs) (ys:=ys) (off:=off) (by omega) (by omega) (fun i k nI=>by
   have hi:i<k1.length:=(zz.1 nI).1;exact hk i k (by rw[amC hi];exact nI)) w
  obtain⟨r',HE,HF⟩:=Ot (xs:=xs) (ys:=ys) w fs (off+k1.length) k2 Cu (by omega) (by omega) (fun i k nI=>by
   have:=hk (k1.length+i) k (by rw[amw (by omega)];simpa using nI);rw[anz];exact this)
  subst ho;simp only[Op.eqFields,hn,ne_eq,not_false_eq_true,if_true,Sem.run_bind,p1,p2,p3,Result.andThen_ok]
  cases r
  ·
   refine⟨false,by simp,?_⟩;simp only[anw,false_iff];intro e;exact absurd (tv.2 fun i hi=>e i (by simp;omega)) (by simp)
  ·
   refine⟨r',by simpa using HE,?_⟩;rw[HF];have:=tv.1 rfl;simp only[adr];constructor
   ·
    intro e i hi
    by_cases h1:i<k1.length
    ·
     exact this i h1
    ·
     have:=e (i -k1.length) (by omega);rw[show f.offset+k1.length+(i -k1.length)=f.offset+i by omega]at this;exact this
   ·
    intro e i hi;have:=e (k1.length+i) (by omega);rw[anz];exact this
theorem HG{fs:Array Field}{ks:List Nat}(hu:P.underlying t=some (.struct fs))(hp:P.stoodInHeld t=false)(hf:Dx P d 0 fs.toList ks):yC P (d+1) t true ks:=fun w x y hx hy sx sy hk=>by
 cases x<;>simp only[oS,anw]at hx
 cases y<;>simp only[oS,anw]at hy
 rename_i xs ys;simp only[Value.cells]at sx sy hk⊢;have oT:P.fieldsOf t=fs:=by simp[Program.fieldsOf,hu]
 obtain⟨r,hr,tv⟩:=Ot (xs:=xs) (ys:=ys) w fs.toList 0 ks hf (by omega) (by omega) (fun i k nI=>by
  have:=hk i k nI;simpa using this)
 refine⟨r,?_,by simpa using tv⟩;rw[run_equalIn_struct w d t xs ys (by rw[oT];exact hu) hp,oT];exact hr
theorem yC.val{jb:Bool}{ks:List Nat}(h:yC P 10000 t jb ks)(hA:jb=true)(hg:P.eqGuardType P.depth t=false){xs ys:Array Value}{r:Bool}(sx:xs.size=ks.length)(sy:ys.size=ks.length)
  (hk: ∀(i k:Nat),ks[i]? =some k-> ∃u v,xs[i]? =some u/\ys[i]? =some v/\rT k u v) (hr:xs=ys↔r=true):vo P t (.agg xs) (.agg ys) r where
 h w:=by
  subst hA;obtain⟨q,h1,h2⟩:=h w (.agg xs) (.agg ys) rfl rfl sx sy hk;have:q=r:=by
   rw[Bool.eq_iff_iff,h2,←hr];simp only[Value.cells];constructor
   ·
    intro e;apply am7;intro i
    by_cases hi:i<ks.length
    ·
     exact e i hi
    ·
     simp[show ¬i<xs.size by omega,show ¬i<ys.size by omega]
   ·
    rintro rfl i _;rfl
  rw[h1,this]
 plain:=hg
 agg:=⟨xs,ys,rfl,rfl⟩
end
end Go.ay
namespace Go.Proofs.YtkggjjnhnjjokaaGreatDoor
open Go.ay Go.Kb
instance (k:Key):eY (bw k) 16:=⟨du k,by
 rw[amU];intro v hv;simp only[bw,List.mem_toArray,anB]at hv;obtain⟨i,_,rfl⟩:=hv;rfl⟩
instance (p:cz):eY (cl p) 18:=⟨lQ p,by
 have h:(bw p.key).all (·.oneCell')=true:=(inferInstance:eY (bw p.key) 16).one;rw[cl,aoz,h];simp[Value.oneCell']⟩
instance (p:cz):bH (cl p) 0 (.int .i64 p.bits):=⟨vJ p⟩
instance (p:cz):bH (cl p) 1 (.int .i64 p.len):=⟨vK p⟩
instance (p:cz):kJ (cl p) 2 16 (bw p.key):=⟨du _,fun j _=>om p j⟩
theorem Xx(d:Nat):qv Tryz.prog (d+1) 5 false [0]:=⟨⟨_,Tryz.underlying5,rfl⟩,by kernel_rfl,fun _=>rfl,HC Tryz.underlying5⟩
theorem AJ(d:Nat):qv Tryz.prog (d+1) 3 false [0]:=⟨⟨_,Tryz.underlying3,rfl⟩,by kernel_rfl,fun _=>rfl,HC Tryz.underlying3⟩
theorem HH(d:Nat):qv Tryz.prog (d+1+1) 25 true (List.replicate 16 [0]).flatten:=⟨⟨_,Tryz.underlying25,rfl⟩,by kernel_rfl,(fun h=>by cases h),Xw Tryz.underlying25 (Xx d)⟩
theorem Xy:Tryz.prog.stoodInHeld 32=false:=by kernel_rfl
theorem Ou(d:Nat):qv Tryz.prog (d+1+1+1) 32 true ([0]++([0]++((List.replicate 16 [0]).flatten++[]))):=⟨⟨_,Tryz.underlying32,rfl⟩,by kernel_rfl,(fun h=>by cases h),
 HG Tryz.underlying32 Xy ⟨by decide,rfl,_,_,_,rfl,AJ _,by decide,rfl,_,_,_,rfl,AJ _,by decide,rfl,_,_,_,rfl,HH _,rfl⟩⟩
theorem Xz:Tryz.prog.eqGuardType Tryz.prog.depth 25=false:=by kernel_rfl
theorem XA:Tryz.prog.eqGuardType Tryz.prog.depth 32=false:=by kernel_rfl
instance (a b:Key):vo Tryz.prog 25 (.agg (bw a)) (.agg (bw b)) (decide (a=b)):=
 (HH 9998).eq.val rfl Xz (du a) (du b) (fun i k hk=>by
  have hi:i<16:=(zz.1 hk).1;have h0:k=0:=by
   have:k∈(List.replicate 16 [0]).flatten:=amm hk;simpa using this
  subst h0;exact⟨_,_,fK a i hi,fK b i hi,rfl⟩) (by rw[decide_eq_true_iff];exact⟨Fc,fun h=>by rw[h]⟩)
instance (a b:cz):vo Tryz.prog 32 (.agg (cl a)) (.agg (cl b)) (decide (a=b)):=
 (Ou 9997).eq.val rfl XA (lQ a) (lQ b) (fun i k hk=>by
  have h0:k=0:=by
   have:k∈([0]++([0]++((List.replicate 16 [0]).flatten++[]))):=amm hk;simpa using this
  subst h0;have hi:i<18:=(zz.1 hk).1
  match i,hi with
  |0,_=>exact⟨_,_,vJ a,vJ b,rfl⟩
  |1,_=>exact⟨_,_,vK a,vK b,rfl⟩
  |j+2,hi=>rw[aoy j 2];exact⟨_,_,(om a j).trans (fK _ j (by omega)),(om b j).trans (fK _ j (by omega)),rfl⟩) (by rw[decide_eq_true_iff];exact⟨Kp,fun h=>by rw[h]⟩)
theorem qw:bw 0#128=(List.replicate 16 (Value.int .u8 0)).toArray:=by
 apply aol;simp only[bw];refine List.eq_replicate_iff.2 ⟨by simp,fun v hv=>?_⟩;simp only[anB]at hv;obtain⟨i,_,rfl⟩:=hv;simp[aX]
instance (n m:Int)(k:Key):pX Tryz.prog 32 [(0, .int .i64 n),(1, .int .i64 m),(2, .agg (bw k))] (.agg (cl ⟨n,m,k⟩)):=⟨fun w=>by kernel_rfl⟩
instance:dH Tryz.prog 25 (.agg (bw 0#128)):=⟨by rw[qw];kernel_rfl⟩
instance:dH Tryz.prog 32 (.agg (cl ⟨0,0,0#128⟩)):=⟨by unfold cl;rw[qw];kernel_rfl⟩
theorem XB(n:Int):kK Tryz.prog 126 [.int .i64 n] (.bool (decide (n=32)||decide (n=128))):=⟨fun w=>by
 refine bQ Tryz.func126 rfl Tryz.ntmps126 rfl ?_;refine aQ ?_;refine aV rfl rfl rfl (fun hg=>(ba rfl).yl) (aV rfl rfl rfl (fun hg=>(da (au hg rfl) rfl rfl).yl) (aj ?_));refine cY (.inl rfl) (iT rfl rfl) (fun w hw=>?_);exact⟨rfl,hw.sub (amJ _)⟩⟩
instance ahW(n:Int):kK Tryz.prog 126 [.int .i64 n] (.bool (decide (n=32)||decide (n=128))):=XB n
theorem XC(k:Key)(n:Int):kK Tryz.prog 213 [.agg (bw k), .int .i64 n] (.int .i64 (lP k n)):=⟨fun w=>by
 refine cD Tryz.func213 rfl Tryz.ntmps213 rfl ?_;refine Gc ?_;refine bJ rfl fun b2=>aG ?_;refine aV rfl rfl rfl (fun hg=>(ba rfl).yl) (aV rfl rfl rfl (fun hg=>(da (au hg rfl) rfl rfl).yl) (ao ?_));refine ig rfl (fun h0=>?_) (fun h0=>?_)
 ·
  simp at h0;refine aj ?_;refine cY (.inl rfl) (iT rfl rfl) (fun w hw=>?_);exact⟨by rw[Ss k n oM],hw.sub (amJ _)⟩
 simp at h0;have hb:=fJ k (n/8).toNat;refine ao ?_;refine ae (kL rfl rfl oM oM) (ae (iR rfl rfl oM oM) (ae (pV rfl (fK _ _ oM)) (ae (iS rfl (ant (fJ _ _) (by decide))) (aj ?_))));refine ae (vt rfl rfl oM oM) (ao ?_);refine bI (X:=Int) (fun i=>[(6, .int .i64 i),(5, .int .i64 ((aX k (n/8).toNat/2^(i -n%8).toNat:Nat):Int))]) (fun i=>[al b2 (bw k) 25]) (fun i=>n%8<=i/\i<=7) (fun i=>(7 -i).toNat) (n%8) oM (Sub.cons rfl (Sub.cons (look_eq rfl (by rw[Int.sub_self];simp)) (Sub.nil _))) (fun w hw=>hw) ?_;rintro i hI;have hd:aX k (n/8).toNat/2^(i -n%8).toNat<256:=aoc (Nat.div_le_self _ _) hb;have hd0:(0:Int)<=((aX k (n/8).toNat/2^(i -n%8).toNat:Nat):Int):=Int.natCast_nonneg _;refine an ?_;refine ig rfl (fun h1=>?_) (fun h1=>?_)
 ·
  have h1:=of_decide_eq_true h1;refine ao ?_;refine ae (kL rfl rfl oM oM) (aG ?_);refine Gi ?_;exact bg (i+1) oM oM (Sub.cons rfl (Sub.cons (look_eq rfl (by rw[show(i+1 -n%8).toNat=(i -n%8).toNat+1 by omega,Nat.pow_succ,←Nat.div_div_eq_div_mul];rfl)) (Sub.nil _))) (fun w hw=>hw)
 have h1:=of_decide_eq_false h1;refine ao ?_;refine ae (vt rfl rfl oM oM) (ao ?_);refine cY (.inl rfl) (iT rfl rfl) (fun w hw=>?_);exact⟨by rw[Kn k n oM oM,show i=7 by omega];rfl,hw.sub (amJ _)⟩⟩
instance ahX(k:Key)(n:Int):kK Tryz.prog 213 [.agg (bw k), .int .i64 n] (.int .i64 (lP k n)):=XC k n
theorem XD(k:Key)(h:Nat)(hh:h<=16):over (bw 0#128) 0 ((bw k).extract 0 h)=bw (dE k ((8*h:Nat):Int)):=by
 refine Fb (by simp[over,du];omega) fun i hi=>?_;have hl:((bw k).extract 0 h).size=h:=by simp[du];omega
 rw[zX k (8*h) i hi];simp only[over,hl,amL,am6,amX,anu]
 by_cases h1:i<h
 ·
  rw[amC (by simp[du];omega),if_pos oM];have:=fK k i hi;simpa[h1]using this
 rw[amw (by simp[du];omega),if_neg oM];have h2:(bw 0#128)[i]? =some (.int .u8 ((0:Nat):Int)):=by rw[fK _ i hi];simp[aX]
 simp only[anU,hl,ang,show h+(i -h)=i by omega];rw[Array.getElem?_toList,h2]
 by_cases h3:8*i<=8*h
 ·
  rw[if_pos h3,show 8 -(8*h -8*i)=8 by omega,Nat.div_eq_of_lt (fJ k i),Nat.zero_mul]
 rw[if_neg h3]
theorem XE(b r:Nat)(hb:b<256)(hr:r<=8):kI .andNot .u8 b ((255/2^r:Nat):Int)=some (.int .u8 ((b/2^(8 -r)*2^(8 -r):Nat):Int)):=by
 have hm:255/2^r<256:=aoc (Nat.div_le_self _ _) oM;rw[Re hb hm];have key:b&&&(256 -1 -255/2^r)=b/2^(8 -r)*2^(8 -r):=by
  have e1:255/2^r=2^(8 -r) -1:=by
   match r,hr with
   |0,_|1,_|2,_|3,_|4,_|5,_|6,_|7,_|8,_=>rfl
   |n+9,h=>omega
  rw[e1];apply Nat.eq_of_testBit_eq;intro j;have e2:256 -1 -(2^(8 -r) -1)=2^8 -(2^(8 -r) -1+1):=by omega
  rw[Nat.testBit_and,e2,Nat.testBit_two_pow_sub_succ (by have:2^(8 -r)<=2^8:=ank (by decide) oM;have:=Nat.two_pow_pos (8 -r);omega),Nat.testBit_two_pow_sub_one,Nat.testBit_mul_two_pow,Nat.testBit_div_two_pow]
  by_cases hj:8 -r<=j
  ·
   simp only[hj,show ¬j<8 -r by omega,decide_true,decide_false,Bool.not_false,Bool.and_true,an9,show j -(8 -r)+(8 -r)=j by omega]
   by_cases h8:j<8
   ·
    simp[h8]
   have:b.testBit j=false:=Nat.testBit_lt_two_pow (ant hb (by have:=ank (n:=2) (by decide) (show 8<=j by omega);simpa using this));simp[this]
  simp[hj,show j<8 -r by omega]
 show some (Value.int .u8 ((b&&&(256 -1 -255/2^r):Nat):Int))=_;rw[key]
theorem XF(k:Key)(n:Int)(h0:1<=n)(h1:n<128)(h2:0<n%8):(bw (dE k ((8*(n/8).toNat:Nat):Int))).setIfInBounds (n/8).toNat (.int .u8 ((aX k (n/8).toNat/2^(8 -(n%8).toNat)*2^(8 -(n%8).toNat):Nat):Int))=bw (dE k n):=by
 have hb:=fJ k (n/8).toNat;rw[Sm _ _ _ oM (aoc (Nat.div_mul_le_self _ _) hb)];congr 1;refine ra fun i hi=>?_;rw[Kk _ _ _ i hi (aoc (Nat.div_mul_le_self _ _) hb),zX k _ i hi];have e:dE k n=dE k ((n.toNat:Nat):Int):=by rw[an8 oM]
 rw[e,zX k n.toNat i hi]
 by_cases hj:i=(n/8).toNat
 ·
  rw[if_pos hj,if_neg oM,if_pos oM,hj,show n.toNat -8*(n/8).toNat=(n%8).toNat by omega]
 rw[if_neg hj]
 by_cases bx:i<(n/8).toNat
 ·
  rw[if_pos oM,if_pos oM]
 rw[if_neg oM,if_neg oM,if_neg oM,if_neg oM]
theorem XG(k:Key)(n:Int)(h0:1<=n)(h2: ¬0<n%8):dE k ((8*(n/8).toNat:Nat):Int)=dE k n:=by
 congr 1;omega
theorem XH(k:Key)(n:Int):kK Tryz.prog 22 [.agg (bw k), .int .i64 n] (.agg (bw (dE k n))):=⟨fun w=>by
 refine cD Tryz.func22 rfl Tryz.ntmps22 rfl ?_;refine Gc ?_;refine bJ rfl fun b2=>bc fun b4=>an ?_;refine ig rfl (fun h0=>?_) (fun h0=>?_)
 ·
  have h0:=of_decide_eq_true h0;refine an ?_;refine cY (.inl rfl) (BY rfl rfl) (fun w hw=>?_);exact⟨by rw[Km k n oM],hw.sub (amJ _)⟩
 have h0:=of_decide_eq_false h0;refine Gc ?_;refine bc fun b5=>an ?_;refine ig rfl (fun h1=>?_) (fun h1=>?_)
 ·
  have h1:=of_decide_eq_true h1;refine an ?_;refine cY (.inl rfl) (BY rfl rfl) (fun w hw=>?_);exact⟨by rw[Sn k n oM],hw.sub (amJ _)⟩
 have h1:=of_decide_eq_false h1;refine ao ?_;refine ae (kL rfl rfl oM oM) (Gs ?_);refine iY ?_;refine uc 4 [] oK oK ?_;simp only[ane,amL];refine Gq ?_;refine bm (EA rfl rfl oM oM) (Gq ?_);refine bm (EA rfl rfl oM oM) (sG (sH ?_));simp only[anK,anh];refine EG (vs:=(bw k).extract 0 (n/8).toNat) rfl rfl (by have e:Nat.min (n/8).toNat (n/8).toNat=(n/8).toNat:=Nat.min_self _;rw[e,Array.size_extract,du];omega) (fun w hw j hj=>by rw[Addr.gl,hw.cell (Has.h (b:=b2)),amX];simp at hj;simp[hj]) (Ri (eY.one (cs:=bw k)) _ _) (by rw[Array.size_extract,du,du];omega) (XD k _ oM) (ao ?_);refine ae (vt rfl rfl oM oM) (aG ?_);refine ig rfl (fun h2=>?_) (fun h2=>?_)
 ·
  have h2:=of_decide_eq_true h2;refine uc 8 [] oK oK ?_;simp only[ane,amL];refine ao ?_;refine bm (iR rfl rfl oM oM) (bm (pV rfl (fK _ _ oM)) (Gq ?_));refine bm (ub (p:=255) rfl rfl (by decide) oM) (bm (da rfl rfl (XE _ _ (fJ _ _) oM)) (bm (iR rfl rfl oM oM) (sG (sH ?_))));simp only[anK,anh];refine cR rfl rfl (by rw[du];omega) rfl (XF k n oM oM h2) (an ?_);refine cY (.inl rfl) (BY rfl rfl) (fun w hw=>?_);exact⟨rfl,hw.sub (amJ _)⟩
 have h2:=of_decide_eq_false h2;refine an ?_;refine cY (.inl rfl) (BY rfl rfl) (fun w hw=>?_);exact⟨by rw[XG k n oM h2],hw.sub (amJ _)⟩⟩
instance ahY(k:Key)(n:Int):kK Tryz.prog 22 [.agg (bw k), .int .i64 n] (.agg (bw (dE k n))):=XH k n
theorem KH(k:Key)(n i:Int)(h0:0<=i)(h1:i<=128)(h2:i<=n\/i=0)(h: ¬(i<128/\i<n)):dE k i=dE k n:=by
 refine zV fun m hm=>?_;rw[sM,sM];congr 1;rw[decide_eq_decide];omega
theorem XI(k:Key)(n:Int):kK Tryz.prog 156 [.agg (bw k), .int .i64 n] (.int .i64 (qb k n)):=⟨fun w=>by
 refine cD Tryz.func156 rfl Tryz.ntmps156 rfl ?_;refine Gc ?_;refine bJ rfl fun b2=>aG ?_;refine aV rfl rfl rfl (fun hg=>(ba rfl).yl) (aV rfl rfl rfl (fun hg=>(da (au hg rfl) rfl rfl).yl) (ao ?_));refine ig rfl (fun h0=>?_) (fun h0=>?_)
 ·
  simp at h0;refine aj ?_;refine cY (.inl rfl) (iT rfl rfl) (fun w hw=>?_);exact⟨by rw[St k n oM],hw.sub (amJ _)⟩
 simp at h0;have q0:=Cf k (4*n);have q1:=Cf k (4*n+1);have q2:=Cf k (4*n+2);have q3:=Cf k (4*n+3);refine Gc ?_;refine gO oK oK (ao ?_);refine bm (jX rfl rfl oM) (kM (pW rfl) (bm (jX rfl rfl oM) (ao ?_)));refine bm (jX rfl rfl oM) (Gq ?_);refine kM (pW rfl) (bm (jX rfl rfl oM) (aj ?_));refine bm (jX rfl rfl oM) (Gq ?_);refine kM (pW rfl) (bm (jX rfl rfl oM) (aj ?_));refine bm (jX rfl rfl oM) (Gq ?_);refine kM (pW rfl) (aj ?_);refine cY (.inl rfl) (iT rfl rfl) (fun w hw=>?_);exact⟨by rw[qb,if_pos oM],hw.sub (amJ _)⟩⟩
instance ahZ(k:Key)(n:Int):kK Tryz.prog 156 [.agg (bw k), .int .i64 n] (.int .i64 (qb k n)):=XI k n
theorem XJ(p:cz):kK Tryz.prog 57 [.agg (cl p)] (.bool (bO p)):=⟨fun w=>by
 refine bQ Tryz.func57 rfl Tryz.ntmps57 rfl ?_;refine Gc ?_;refine bJ rfl fun b1=>an ?_;refine ck (pW rfl) (ao ?_);refine aV rfl rfl rfl (fun hg=>(aK (o':=1) rfl rfl).yl) (aV rfl rfl rfl (fun hg=>(bA (au hg rfl)).yl) (aV rfl rfl rfl (fun hg=>(da (au hg rfl) rfl rfl).yl) (ao ?_)));refine aV rfl rfl rfl (fun hg=>(aK (o':=1) rfl rfl).yl) (aV rfl rfl rfl (fun hg=>(bA (au hg rfl)).yl) (aV rfl rfl rfl (fun hg=>(aK (o':=0) rfl rfl).yl) (aV rfl rfl rfl (fun hg=>(bA (au hg rfl)).yl) (aV rfl rfl rfl (fun hg=>(da (au hg rfl) (au hg rfl) rfl).yl) (ao ?_)))));refine ig rfl (fun h0=>?_) (fun h0=>?_)
 ·
  refine aj ?_;refine cY (.inl rfl) (iT rfl rfl) (fun w hw=>?_);refine⟨?_,hw.sub (amJ _)⟩;have:bO p=false:=by unfold bO;simp at h0⊢;omega
  rw[this]
 refine Gc ?_;refine gO oK oK (Gq ?_);refine bm (dy rfl) (ao ?_);refine kM (pW rfl) (Gq ?_);refine bm (dy rfl) (bm (Ez rfl rfl) (ao ?_));refine cY (.inl rfl) (iT rfl rfl) (fun w hw=>?_);refine⟨?_,hw.sub (amJ _)⟩;congr 2;unfold bO;simp at h0⊢;obtain⟨⟨h1,h2⟩,h3⟩:=h0;simp[h2,h3,show p.bits=32\/p.bits=128 by omega]⟩
instance ah0(p:cz):kK Tryz.prog 57 [.agg (cl p)] (.bool (bO p)):=XJ p
theorem XK(p:cz):kK Tryz.prog 155 [.agg (cl p)] (.bool (bO p)):=⟨fun w=>by
 refine bQ Tryz.func155 rfl Tryz.ntmps155 rfl ?_;refine Gc ?_;refine bJ rfl fun b1=>aQ ?_;refine gm rfl rfl rfl (fun hg=>(aK (o':=0) rfl rfl).yl) (gm rfl rfl rfl (fun hg=>(bA (au hg rfl)).yl) (gm rfl rfl rfl (fun hg=>(da (au hg rfl) rfl rfl).yl) (ao ?_)));refine aV rfl rfl rfl (fun hg=>(aK (o':=1) rfl rfl).yl) (aV rfl rfl rfl (fun hg=>(bA (au hg rfl)).yl) (aV rfl rfl rfl (fun hg=>(da (au hg rfl) rfl rfl).yl) (ao ?_)));refine aV rfl rfl rfl (fun hg=>(aK (o':=1) rfl rfl).yl) (aV rfl rfl rfl (fun hg=>(bA (au hg rfl)).yl) (aV rfl rfl rfl (fun hg=>(aK (o':=0) rfl rfl).yl) (aV rfl rfl rfl (fun hg=>(bA (au hg rfl)).yl) (aV rfl rfl rfl (fun hg=>(da (au hg rfl) (au hg rfl) rfl).yl) (ao ?_)))));refine ig rfl (fun h0=>?_) (fun h0=>?_)
 ·
  simp at h0;refine aj ?_;refine cY (.inl rfl) (iT rfl rfl) (fun w hw=>?_);refine⟨?_,hw.sub (amJ _)⟩;have:bO p=false:=by unfold bO;simp;omega
  rw[this]
 simp at h0;refine aG ?_;refine bI (X:=Int) (fun i=>[(3, .int .i64 i),(1, .pointer (some ⟨b1,0,none⟩))]) (fun i=>[al b1 (cl p) 32]) (fun i=>p.len<=i/\i<=128/\ ∀j:Nat,p.len<=(j:Int)->(j:Int)<i->p.key.getMsbD j=false) (fun i=>(128 -i).toNat) p.len ⟨by omega,by omega,fun j h h2=>by omega⟩ sb (fun w hw=>hw) ?_;rintro i ⟨w7,bf,hs⟩;refine an ?_;refine ig rfl (fun h1=>?_) (fun h1=>?_)
 ·
  have h1:=of_decide_eq_true h1;refine ao ?_;refine ae (dy rfl) (Gs ?_);refine ck (pW rfl) (ao ?_);refine ig rfl (fun h2=>?_) (fun h2=>?_)
  ·
   simp at h2;refine aj ?_;refine cY (.inl rfl) (iT rfl rfl) (fun w hw=>?_);refine⟨?_,hw.sub (amJ _)⟩;have:bO p=false:=by
    rw[←Bool.not_eq_true,vL];rintro⟨_,_,_,h⟩;have:=h i.toNat oM oM;rw[show i=((i.toNat:Nat):Int) by omega,Ko,this]at h2;simp at h2
   rw[this]
  simp at h2;refine an ?_;refine Gi ?_;exact bg (i+1) ⟨by omega,by omega,fun j hj dk=>if e:(j:Int)=i then(by rw[←e,Ko]at h2;simpa using h2)else hs j hj oM⟩ oM sb (fun w hw=>hw)
 have h1:=of_decide_eq_false h1;refine aj ?_;refine cY (.inl rfl) (iT rfl rfl) (fun w hw=>?_);refine⟨?_,hw.sub (amJ _)⟩;have:bO p=true:=(vL p).2 ⟨by omega,by omega,by omega,fun j hj dk=>hs j dk oM⟩;rw[this]⟩
instance ah1(p:cz):kK Tryz.prog 155 [.agg (cl p)] (.bool (bO p)):=XK p
open Go.RowKit
def qx(k:Key):List Int:=(List.range 16).map fun i=>(aX k i:Int)
theorem Ov(k:Key)(j:Nat)(x:Int)(h:(qx k)[j]? =some x):j<16/\x=aX k j:=by
 have hl:j<16:=by have:=(zz.1 h).1;simpa[qx]using this
 refine⟨hl,?_⟩;simp[qx,hl]at h;exact h.symm
theorem XL{x y:UInt8}{xs ys:List UInt8}:Lib.compareBytes (x::xs) (y::ys)=if x.toNat<y.toNat then -1 else if y.toNat<x.toNat then 1 else Lib.compareBytes xs ys:=by
 simp[Lib.compareBytes,UInt8.lt_iff_toNat_lt]
theorem Ow(a b:Key): ∀(n i:Nat),i+n=16->(∀j,j<i->aX a j=aX b j)->
  Lib.compareBytes ((List.range' i n).map fun j=>(aX a j).toUInt8) ((List.range' i n).map fun j=>(aX b j).toUInt8)=pk a b
 |0,i,hi,hs=>by
  have:a=b:=ra fun j hj=>hs j (by omega);subst this;simp[Lib.compareBytes,pk]
 |n+1,i,hi,hs=>by
  have ha:=fJ a i;have hb:=fJ b i;rw[List.range'_succ,amR,amR,XL];have ea:(aX a i).toUInt8.toNat=aX a i:=by simp;omega
  have eb:(aX b i).toUInt8.toNat=aX b i:=by simp;omega
  rw[ea,eb]
  by_cases h1:aX a i<aX b i
  ·
   rw[if_pos h1];have:=Kr (by omega) hs h1;unfold pk;rw[if_pos this]
  ·
   rw[if_neg h1]
   by_cases h2:aX b i<aX a i
   ·
    rw[if_pos h2];have:=Kr (by omega) (fun j hj=>(hs j hj).symm) h2;unfold pk;rw[if_neg (by omega),if_pos this]
   ·
    rw[if_neg h2];exact Ow a b n (i+1) (by omega) fun j hj=>by
     by_cases e:j=i
     ·
      subst e;omega
     ·
      exact hs j (by omega)
theorem Ox(k:Key):(⟨ByteArray.empty.data++(Lib.bytesOf (qx k)).toArray⟩:ByteArray).data.toList=(List.range' 0 16).map fun j=>(aX k j).toUInt8:=by
 simp[Lib.bytesOf,qx,List.range_eq_range']
theorem XM(a b:Key)(p q:Addr)(c c':Nat)(w:World)(hp: ∀j,j<16->w.cell? (p.add j)=some (.int .u8 (aX a j)))(hq: ∀j,j<16->w.cell? (q.add j)=some (.int .u8 (aX b j))):
  Calls Tryz.prog 66 [.slice (some p) 16 c, .slice (some q) 16 c'].toArray w fun e w'=>e= .returned (.int .i64 (pk a b))/\Mem w [] w':=by
 refine xn (args:=[_,_]) Tryz.func66 rfl Tryz.ntmps66 rfl ?_;change Cw _ _ _ _ _ [(0, .slice (some p) 16 c),(1, .slice (some q) 16 c')] [];refine BS ?_;refine BT ?_;refine ae (fG rfl) ?_;refine BQ ?_;refine BW ?_;refine BS ?_;refine BT ?_;refine ae (ba rfl) ?_;refine ae (ba rfl) ?_;refine ae (v:= .int .i64 (pk a b)) ?_ ?_
 ·
  intro aa w1 ha hw;have tw: ∀j,j<16->w1.cell? (p.add j)=some (.int .u8 (aX a j)):=fun j hj=>by
   rw[←hp j hj];exact hw.below.cell (block_lt_of_cell (hp j hj))
  have XN: ∀j,j<16->w1.cell? (q.add j)=some (.int .u8 (aX b j)):=fun j hj=>by
   rw[←hq j hj];exact hw.below.cell (block_lt_of_cell (hq j hj))
  have r1:=Lib.run_loadBytesX (P:=Tryz.prog) w1 (qx a) p .empty (fun j x hx=>by obtain⟨h1,rfl⟩:=Ov a j x hx;exact tw j h1);have r2:=Lib.run_loadBytesX (P:=Tryz.prog) w1 (qx b) q .empty (fun j x hx=>by obtain⟨h1,rfl⟩:=Ov b j x hx;exact XN j h1);have l1:(qx a).length=16:=by simp[qx]
  have l2:(qx b).length=16:=by simp[qx]
  rw[l1]at r1;rw[l2]at r2;have e5:=ha.ev (x:= .tmp 5) (v:= .slice (some p) 16 c) rfl;have e6:=ha.ev (x:= .tmp 6) (v:= .slice (some q) 16 c') rfl;have fq:(callFunc 136 #[.slice (some p) 16 c, .slice (some q) 16 c']).run Tryz.prog w1= .ok (.value (.int .i64 (pk a b))) w1:=by
   rw[run_callFunc_extern Tryz.func136 (by kernel_rfl) (by kernel_rfl) (by kernel_rfl) (e:=Extern.BytealgCompare.compare) (by kernel_rfl)];have:(Extern.BytealgCompare.compare #[.slice (some p) 16 c, .slice (some q) 16 c']).run Tryz.prog w1= .ok (.int .i64 (pk a b)) w1:=by
    change Sem.run Tryz.prog (do pure (goInt (Extern.BytealgCompare.cmp (←Extern.Bytes.bytesOf (.slice (some p) 16 c)) (←Extern.Bytes.bytesOf (.slice (some q) 16 c'))))) w1=_;simp only[Extern.Bytes.bytesOf,Sem.run_bind,r1,r2,Sem.run_pure,Result.andThen];rw[Lib.cmp_eq,Ox,Ox,Ow a b 16 0 rfl (fun j h=>by omega)];rfl
   rw[this];rfl
  simp[execOp,resolve,Act.eval,Deferred.ofValue,invoke]at e5 e6⊢;rw[e5,e6,fq]
 refine ae (fG rfl) ?_;refine BQ ?_;refine BW ?_;refine EI ?_;refine cY (.inl rfl) (iT rfl rfl) (fun w hw=>?_);exact⟨rfl,hw.sub (amJ _)⟩
theorem Oy{w0 w:World}{L:List ah}{b:Nat}{p:cz}{T:TypeId}{i:Nat}(hw:Mem w0 L w)[hh:Has L b (cl p) T i](j:Nat)(hj:j<16):w.cell? ((⟨b,2,none⟩:Addr).add j)=some (.int .u8 (aX p.key j)):=by
 rw[Addr.gl,hw.cell hh.h,om,fK _ j hj]
theorem HI{p q:cz}(h1:bO p=true)(h2:bO q=true):qc p q=(if p.bits≠q.bits then decide (p.bits=32)else if p.key≠q.key then decide (p.key.toNat<q.key.toNat)else decide (p.len<q.len)):=by
 unfold qc;rw[h1,h2];rfl
theorem XO(p q:cz):kK Tryz.prog 58 [.agg (cl p), .agg (cl q)] (.bool (qc p q)):=⟨fun w=>by
 refine cD Tryz.func58 rfl Tryz.ntmps58 rfl ?_;refine Gc ?_;refine bJ rfl fun b2=>bJ rfl fun b3=>aj ?_;refine ck (pW rfl) (ao ?_);refine aV rfl rfl rfl (fun hg=>(fu rfl).yl) (aV rfl rfl rfl (fun hg=>pW (dB (au hg rfl) gk)) (aV rfl rfl rfl (fun hg=>(kg (au hg rfl)).yl) (ao ?_)));refine ig rfl (fun h0=>?_) (fun h0=>?_)
 ·
  simp at h0;refine aj ?_;refine cY (.inl rfl) (iT rfl rfl) (fun w hw=>?_);refine⟨?_,hw.sub (amJ _)⟩;have:qc p q=false:=by unfold qc;cases h1:bO p<;>cases h2:bO q<;>simp_all
  rw[this]
 simp at h0;obtain⟨m1,m2⟩:=h0;refine ct ?_;refine ig rfl (fun h1=>?_) (fun h1=>?_)
 ·
  simp at h1;refine aQ ?_;refine cY (.inl rfl) (iT rfl rfl) (fun w hw=>?_);exact⟨by rw[HI m1 m2,if_pos h1],hw.sub (amJ _)⟩
 simp at h1;refine Gc ?_;refine gO oK oK (Gq ?_);refine bm (vu rfl) (Gq ?_);refine bm (vu rfl) (kM (zq rfl (fun w hw=>XM p.key q.key _ _ _ _ w (Oy hw) (Oy hw))) (aG ?_));refine ig rfl (fun h2=>?_) (fun h2=>?_)
 ·
  simp at h2;refine aG ?_;refine cY (.inl rfl) (iT rfl rfl) (fun w hw=>?_);exact⟨by rw[HI m1 m2,if_neg (by simpa using h1),if_pos (fun e=>h2 ((Ks _ _).2 e)),decide_eq_decide.2 (SB _ _)],hw.sub (amJ _)⟩
 simp at h2;refine dV ?_;refine cY (.inl rfl) (iT rfl rfl) (fun w hw=>?_);exact⟨by rw[HI m1 m2,if_neg (by simpa using h1),if_neg (by simpa using(Ks _ _).1 h2)],hw.sub (amJ _)⟩⟩
instance ah2(p q:cz):kK Tryz.prog 58 [.agg (cl p), .agg (cl q)] (.bool (qc p q)):=XO p q
instance ah3:dC Tryz.prog 22 34 19 40:=⟨Tryz.underlying22,by kernel_rfl⟩
instance ah4:dC Tryz.prog 45 47 20 48:=⟨Tryz.underlying45,by kernel_rfl⟩
instance ah5:dH Tryz.prog 53 (.slice none 0 0):=⟨by kernel_rfl⟩
instance ah6:dC Tryz.prog 53 5 1 1:=⟨Tryz.underlying53,by kernel_rfl⟩
instance ah7:dC Tryz.prog 56 180 4 48:=⟨Tryz.underlying56,by kernel_rfl⟩
instance ah8:dC Tryz.prog 57 97 4 16:=⟨Tryz.underlying57,by kernel_rfl⟩
instance ah9:dC Tryz.prog 60 3 1 8:=⟨Tryz.underlying60,by kernel_rfl⟩
instance aia:dC Tryz.prog 74 73 38 80:=⟨Tryz.underlying74,by kernel_rfl⟩
instance aib:dC Tryz.prog 155 9 1 16:=⟨Tryz.underlying155,by kernel_rfl⟩
instance aic:dC Tryz.prog 178 53 1 24:=⟨Tryz.underlying178,by kernel_rfl⟩
instance aid:dC Tryz.prog 191 269 2 32:=⟨Tryz.underlying191,by kernel_rfl⟩
instance aie:dC Tryz.prog 366 60 1 24:=⟨Tryz.underlying366,by kernel_rfl⟩
instance aif:dC Tryz.prog 396 178 1 24:=⟨Tryz.underlying396,by kernel_rfl⟩
instance aih:dC Tryz.prog 399 402 4 32:=⟨Tryz.underlying399,by kernel_rfl⟩
instance aii:dC Tryz.prog 443 433 1 8:=⟨Tryz.underlying443,by kernel_rfl⟩
instance:bn av 19:=⟨fw,fun r=>by
 have h:(cl r.p).all (·.oneCell')=true:=(inferInstance:eY (cl r.p) 18).one;rw[av,aoz,h];simp[Value.oneCell']⟩
instance:Deep Rt:=Deep.flat av 19
instance:ff Rt av 19:=⟨rfl,fun _=>rfl⟩
instance (r:Rt):eY (av r) 19:=⟨fw r,bn.one r⟩
instance (r:Rt):kJ (av r) 0 18 (cl r.p):=⟨lQ _,fun j hj=>by rw[amX];exact lu r j hj⟩
instance (r:Rt):bH (av r) 18 (.int .u16 r.eC.toNat):=⟨rf r⟩
instance (r:Rt):bH (av r) 0 (.int .i64 r.p.bits):=⟨(lu r 0 (by decide)).trans (vJ r.p)⟩
instance (r:Rt):bH (av r) 1 (.int .i64 r.p.len):=⟨(lu r 1 (by decide)).trans (vK r.p)⟩
theorem XP(d:Nat):qv Tryz.prog (d+1) 27 false [0]:=⟨⟨_,Tryz.underlying27,rfl⟩,by kernel_rfl,fun _=>rfl,HC Tryz.underlying27⟩
theorem XQ:Tryz.prog.stoodInHeld 34=false:=by kernel_rfl
theorem Oz(d:Nat):qv Tryz.prog (d+1+1+1+1) 34 true (([0]++([0]++((List.replicate 16 [0]).flatten++[])))++([0]++[])):=⟨⟨_,Tryz.underlying34,rfl⟩,by kernel_rfl,(fun h=>by cases h),
 HG Tryz.underlying34 XQ ⟨by decide,rfl,_,_,_,rfl,Ou _,by decide,rfl,_,_,_,rfl,XP _,rfl⟩⟩
theorem XR:Tryz.prog.eqGuardType Tryz.prog.depth 34=false:=by kernel_rfl
instance (a b:Rt):vo Tryz.prog 34 (.agg (av a)) (.agg (av b)) (decide (a=b)):=
 (Oz 9996).eq.val rfl XR (fw a) (fw b) (fun i k hk=>by
  have h0:k=0:=by
   have:k∈(([0]++([0]++((List.replicate 16 [0]).flatten++[])))++([0]++[])):=amm hk;simpa using this
  subst h0;have hi:i<19:=(zz.1 hk).1
  match i,hi with
  |0,_=>exact⟨_,_,(inferInstance:bH (av a) 0 _).h,(inferInstance:bH (av b) 0 _).h,rfl⟩
  |1,_=>exact⟨_,_,(inferInstance:bH (av a) 1 _).h,(inferInstance:bH (av b) 1 _).h,rfl⟩
  |j+2,hi=>
   rcases amv j 16 with h|h
   ·
    rw[aoy j 2];exact⟨_,_,(lu a _ (by omega)).trans ((om a.p j).trans (fK _ j h)),(lu b _ (by omega)).trans ((om b.p j).trans (fK _ j h)),rfl⟩
   obtain rfl:j=16:=by omega
   exact⟨_,_,rf a,rf b,rfl⟩) (by rw[decide_eq_true_iff];exact⟨Kw,fun h=>by rw[h]⟩)
instance:pX Tryz.prog 34 [] (.agg (av bp)):=⟨fun w=>by unfold av cl bp;rw[qw];kernel_rfl⟩
instance (p:cz)(h:UInt16):pX Tryz.prog 34 [(0, .agg (cl p)),(1, .int .u16 h.toNat)] (.agg (av ⟨p,h⟩)):=⟨fun w=>by kernel_rfl⟩
instance:dH Tryz.prog 34 (.agg (av bp)):=⟨by unfold av cl bp;rw[qw];kernel_rfl⟩
end Go.Proofs.YtkggjjnhnjjokaaGreatDoor
namespace Go.Kb
open Go.ay
instance:Plain Rt:=⟨fun _=>rfl⟩
instance:fc Rt:=fc.flat fun _ _=>trivial
structure bM where
 aq:ca
 table:Sl Rt
def cV(x:bM):Array Value:= #[.int .i64 x.aq.ai.ab, .int .i64 x.aq.ai.size,x.aq.ai.blocks.sv.val, .int .i64 x.aq.ai.ops, .bool x.aq.ai.off,x.aq.ai.bb.sv.val,x.aq.at_.sv.val, .int .u64 x.aq.gen.toNat, .int .i64 x.aq.last,x.table.sv.val]
instance:bn cV 10:=⟨fun _=>rfl,fun x=>by
 simp only[cV,anI,anQ,anY,Sv.one,ry,rz,anR]⟩
instance (x:bM):eY (cV x) 10:=⟨rfl,bn.one x⟩
instance (x:bM):bH (cV x) 1 (.int .i64 x.aq.ai.size):=⟨rfl⟩
instance (x:bM):bH (cV x) 6 (x.aq.at_.sv.val):=⟨rfl⟩
instance (x:bM):bH (cV x) 7 (.int .u64 x.aq.gen.toNat):=⟨rfl⟩
instance (x:bM):bH (cV x) 8 (.int .i64 x.aq.last):=⟨rfl⟩
instance (x:bM):bH (cV x) 9 (x.table.sv.val):=⟨rfl⟩
instance (x:bM):kJ (cV x) 0 9 (cj x.aq):=⟨rfl,fun j hj=>by
 match j,hj with
 |0,_=>rfl
 |1,_=>rfl
 |2,_=>rfl
 |3,_=>rfl
 |4,_=>rfl
 |5,_=>rfl
 |6,_=>rfl
 |7,_=>rfl
 |8,_=>rfl⟩
instance (x:bM):kJ (cV x) 0 6 (aS x.aq.ai):=⟨rfl,fun j hj=>by
 match j,hj with
 |0,_=>rfl
 |1,_=>rfl
 |2,_=>rfl
 |3,_=>rfl
 |4,_=>rfl
 |5,_=>rfl⟩
instance:Deep bM where
 c:=10
 cells:=cV
 size:=bn.size
 one:=bn.one
 dD h x:=Deep.dD h x.aq/\Deep.dD h x.table
 cg x:= .two (Deep.cg x.aq) (Deep.cg x.table)
 iU h x hs:=⟨Deep.iU h x.aq hs.1,Deep.iU h x.table hs.2.1⟩
 mono w w' x hg hb:=⟨Deep.mono w w' x.aq hg.1 hb,Deep.mono w w' x.table hg.2 hb⟩
instance:fc bM where
 reach x k:=fc.reach x.aq k\/fc.reach x.table k
 congr h h' x e hg:=⟨fc.congr h h' x.aq (fun k hk=>e k (.inl hk)) hg.1,fc.congr h h' x.table (fun k hk=>e k (.inr hk)) hg.2⟩
variable {w0:World}{L:List ah}
instance{x:bM}[q:aU w0 L x]:aU w0 L x.aq:=⟨fun w hw=>(q.h w hw).1⟩
instance{x:bM}[q:aU w0 L x]:aU w0 L x.table:=⟨fun w hw=>(q.h w hw).2⟩
instance{aq:ca}{table:Sl Rt}[q0:aU w0 L aq][q1:aU w0 L table]:aU w0 L (bM.mk aq table):=⟨fun w hw=>⟨q0.h w hw,q1.h w hw⟩⟩
def kY:bM:=⟨kv,⟨Sv.none,[]⟩⟩
structure FV where
 aq:VV
 table:List Rt
 deriving DecidableEq
def aJ(f:bM):FV:=⟨vv f.aq,f.table.xs⟩
def pF:FV:=⟨lY,[]⟩
def AK(b p s:Int):Int:=min (wD b p/2) (lB s)
def HJ(b p s:Int):Int:=mc (AK b p s) (fj s)
def gW(c:CV):Int:=AK c.blocks.length c.ab c.size
def qy(c:CV):Int:=HJ c.blocks.length c.ab c.size
def ka(c:CV)(y:Int):List UInt8:=if y -1<0 then[]else kR c y
def oU(v:VV):List (List UInt8):=v.at_.map (ka v.ai)
def c6(c:CV):FV×Int:=
 if qy c=0 then(pF,1)
 else if(bL c).2≠0 then(pF,(bL c).2)
 else if((bL c).1.at_.length:Int)≠gW c then(pF,2)
 else if oQ (oU (bL c).1)≠0 then(pF,2)
 else(⟨(bL c).1,me (oU (bL c).1)⟩,0)
def kA(c:CV):List (List UInt8):=if(c6 c).2=0 then oU (bL c).1 else[]
theorem OA{c:CV}(h:qy c=0):c6 c=(pF,1)/\kA c=[]:=by
 have e:c6 c=(pF,1):=by rw[c6,if_pos h]
 exact⟨e,by rw[kA,e];rfl⟩
theorem OB{c:CV}(h: ¬qy c=0)(h1:(bL c).2≠0):c6 c=(pF,(bL c).2)/\kA c=[]:=by
 have e:c6 c=(pF,(bL c).2):=by rw[c6,if_neg h,if_pos h1]
 exact⟨e,by rw[kA,e,if_neg h1]⟩
theorem OC{c:CV}(h: ¬qy c=0)(h1:(bL c).2=0)(h2:((bL c).1.at_.length:Int)≠gW c):c6 c=(pF,2)/\kA c=[]:=by
 have e:c6 c=(pF,2):=by rw[c6,if_neg h,if_neg (fun g=>g h1),if_pos h2]
 exact⟨e,by rw[kA,e];rfl⟩
theorem OD{c:CV}(h: ¬qy c=0)(h1:(bL c).2=0)(h2:((bL c).1.at_.length:Int)=gW c)(h3:oQ (oU (bL c).1)≠0):c6 c=(pF,2)/\kA c=[]:=by
 have e:c6 c=(pF,2):=by rw[c6,if_neg h,if_neg (fun g=>g h1),if_neg (fun g=>g h2),if_pos h3]
 exact⟨e,by rw[kA,e];rfl⟩
theorem XS{c:CV}(h: ¬qy c=0)(h1:(bL c).2=0)(h2:((bL c).1.at_.length:Int)=gW c)(h3:oQ (oU (bL c).1)=0):c6 c=(⟨(bL c).1,me (oU (bL c).1)⟩,0)/\kA c=oU (bL c).1:=by
 have e:c6 c=(⟨(bL c).1,me (oU (bL c).1)⟩,0):=by rw[c6,if_neg h,if_neg (fun g=>g h1),if_neg (fun g=>g h2),if_neg (fun g=>g h3)]
 exact⟨e,by rw[kA,e,if_pos rfl]⟩
theorem XT{c:CV}(h:(c6 c).2=0): ¬qy c=0/\(bL c).2=0/\((bL c).1.at_.length:Int)=gW c/\oQ (oU (bL c).1)=0:=by
 by_cases h0:qy c=0
 ·
  rw[(OA h0).1]at h;cases h
 by_cases h1:(bL c).2=0
 ·
  by_cases h2:((bL c).1.at_.length:Int)=gW c
  ·
   by_cases h3:oQ (oU (bL c).1)=0
   ·
    exact⟨h0,h1,h2,h3⟩
   rw[(OD h0 h1 h2 h3).1]at h;cases h
  rw[(OC h0 h1 h2).1]at h;cases h
 rw[(OB h0 h1).1]at h;exact absurd h h1
def ju(f:FV):Bool:=decide ((c6 {f.aq.ai with off:=false}).2=0)&&decide (f.aq.gen=(c6 {f.aq.ai with off:=false}).1.aq.gen)&&decide (f.aq.last=(c6 {f.aq.ai with off:=false}).1.aq.last)&&decide (f.aq.at_=(c6 {f.aq.ai with off:=false}).1.aq.at_)&&decide (f.table=(c6 {f.aq.ai with off:=false}).1.table)
theorem XU{f:FV}:ju f=true↔(c6 {f.aq.ai with off:=false}).2=0/\f.aq.gen=(c6 {f.aq.ai with off:=false}).1.aq.gen/\f.aq.last=(c6 {f.aq.ai with off:=false}).1.aq.last/\f.aq.at_=(c6 {f.aq.ai with off:=false}).1.aq.at_/\f.table=(c6 {f.aq.ai with off:=false}).1.table:=by
 simp only[ju,alM,decide_eq_true_eq,and_assoc]
def gJ(f:FV)(l:List Ch):FV×Int:=
 if ju f=false then(f,1)
 else if j9 f.table l≠0 then(f,j9 f.table l)
 else if jt (eU f.table l) (gW f.aq.ai) (fj f.aq.ai.size)≠0 then(f,jt (eU f.table l) (gW f.aq.ai) (fj f.aq.ai.size))
 else if kz (kA {f.aq.ai with off:=false}) (kX (eU f.table l) (gW f.aq.ai) (fj f.aq.ai.size))=[]then(⟨f.aq,eU f.table l⟩,0)
 else(⟨(gI f.aq (kz (kA {f.aq.ai with off:=false}) (kX (eU f.table l) (gW f.aq.ai) (fj f.aq.ai.size)))).1,if(gI f.aq (kz (kA {f.aq.ai with off:=false}) (kX (eU f.table l) (gW f.aq.ai) (fj f.aq.ai.size)))).2≠0 then f.table else eU f.table l⟩,(gI f.aq (kz (kA {f.aq.ai with off:=false}) (kX (eU f.table l) (gW f.aq.ai) (fj f.aq.ai.size)))).2)
def pG(c:CV):FV×Int:=if qy c=0 then(⟨⟨c,[],0,0⟩,[]⟩,1)else(⟨(np c (gW c)).1,[]⟩,(np c (gW c)).2)
def oV(f:FV)(k:Key)(bits:Int):Rt:=if ju f=true then yB f.table k bits else bp
def qz(f:FV)(k:Key)(bits:Int):Int:=if ju f=true then uS f.table k bits else 1
theorem AL{w0 w:World}{L:List ah}{a:Sl Rt}(h:Mem w0 (own av 19 a.sv a.xs::L) w):Mem w0 (fz a::L) w:=CZ (fun _ _ h=>h) (fun _ _=>trivial) h
theorem Dy{w0 w:World}{L:List ah}{f:bM}(h:Mem w0 (fz f.aq.ai::fz f.aq.at_::fz f.table::L) w):Mem w0 (fz f::L) w:=by
 refine Mem.freeze (es:=[fz f.aq.ai,fz f.aq.at_,fz f.table]) f ⟨⟨h.sat (fz f.aq.ai) (by simp),h.sat (fz f.aq.at_) (by simp)⟩,h.sat (fz f.table) (by simp)⟩ (fun k hk=>?_) h;rcases hk with(hk|hk)|hk
 ·
  exact⟨fz f.aq.ai,by simp,hk⟩
 ·
  exact⟨fz f.aq.at_,by simp,hk⟩
 exact⟨fz f.table,by simp,hk⟩
theorem OE{w0 w:World}{L:List ah}{f:bM}(h:Mem w0 (fz f.aq.ai::own bT 1 f.aq.at_.sv f.aq.at_.xs::own av 19 f.table.sv f.table.xs::L) w):Mem w0 (fz f::L) w:=by
 have h1:=wc (a:=f.aq.at_) (h.perm (List.Perm.swap _ _ _));have h2:=AL (a:=f.table) (h1.perm ((List.Perm.cons _ (List.Perm.swap _ _ _)).trans (List.Perm.swap _ _ _)));exact Dy (h2.perm ((List.Perm.cons _ (List.Perm.swap _ _ _)).trans ((List.Perm.swap _ _ _).trans (List.Perm.cons _ (List.Perm.swap _ _ _)))))
theorem Dz{w0 w:World}{L:List ah}(h:Mem w0 L w):Mem w0 (fz kY::L) w:=
 Mem.freeze (es:=[]) kY ⟨⟨⟨vF,vF⟩,vF⟩,vF⟩ (fun k hk=>by
  rcases hk with(((⟨cE,_⟩|⟨x,hx,_⟩)|⟨cE,_⟩|⟨x,hx,_⟩)|⟨cE,_⟩|⟨x,hx,_⟩)|⟨cE,_⟩|⟨x,hx,_⟩
  all_goals first|exact absurd rfl cE|cases hx) h
theorem yD{w0 w:World}{L:List ah}:Mem w0 L w->Mem w0 (fz (⟨Sv.none,[]⟩:Sl (Sl UInt8))::L) w:=
 Mem.freeze (es:=[]) _ vF (fun k hk=>by
  rcases hk with⟨cE,_⟩|⟨x,hx,_⟩
  ·
   exact absurd rfl cE
  cases hx)
theorem OF(s:Int):0<=lB s/\lB s<=64:=by
 rw[lB,fj];split
 ·
  rename_i h;have:=Aw.1 h;omega
 omega
theorem OG(c:CV):gW c<=64:=by
 have:=OF c.size;rw[gW,AK];omega
theorem XV(b p:Int):0<=wD b p/\wD b p<=448:=by
 rw[wD];split
 ·
  omega
 rename_i h;have h1:0<=b -4/\b -4<=28:=by omega
 have h2:1<=p/\p<=16:=by omega
 exact⟨Int.mul_nonneg h1.1 (by omega),Int.le_trans (aoL h1.2 h2.2 (by omega) (by omega)) (by decide)⟩
theorem XW{c:CV}(h:(bL c).2=0):(bL c).1.ai=c:=by
 obtain⟨_,_,e⟩:=G6 h;rw[e]
theorem XX{c:CV}(h:(bL c).2=0):c.off=false:=by
 cases ho:c.off with
 |false=>rfl
 |true=>rw[bL,if_neg (by rw[G5 h];simp),if_pos ho]at h;cases h
theorem XY{c:CV}(h:(bL c).2=0):py (bL c).1=true:=by
 have e:{(bL c).1.ai with off:=false}=c:=by rw[XW h,←XX h]
 simp only[py,e,h,decide_true,anR]
theorem XZ(c:CV)(n:Int):(kR c n).length<=65536:=by
 rw[kR];split
 ·
  exact GZ _
 simp
theorem X0(v:VV):(oU v).length=v.at_.length:=by rw[oU,amF]
theorem X1(c:CV)(n:Int):(ka c n).length<=65536:=by
 rw[ka];split
 ·
  simp
 exact XZ c n
theorem X2(c:CV):(kA c).length<=64:=by
 rw[kA];split
 ·
  rename_i h;obtain⟨g0,g1,g2,g3⟩:=XT h;have:=OG c;rw[X0];omega
 simp
def mh(f:FV):List (List UInt8):=kA {f.aq.ai with off:=false}
def yE(f:FV)(l:List Ch):Int:=jt (eU f.table l) (gW f.aq.ai) (fj f.aq.ai.size)
def lF(f:FV)(l:List Ch):List (List UInt8):=kX (eU f.table l) (gW f.aq.ai) (fj f.aq.ai.size)
theorem X3{f:FV}{l:List Ch}(h0:ju f=false):gJ f l=(f,1):=by rw[gJ,if_pos h0]
theorem DA(f:FV)(l:List Ch):gJ f l=(if ju f=false then(f,1)
 else if j9 f.table l≠0 then(f,j9 f.table l)
 else if yE f l≠0 then(f,yE f l)
 else if kz (mh f) (lF f l)=[]then(⟨f.aq,eU f.table l⟩,0)
 else(⟨(gI f.aq (kz (mh f) (lF f l))).1,if(gI f.aq (kz (mh f) (lF f l))).2≠0 then f.table else eU f.table l⟩,(gI f.aq (kz (mh f) (lF f l))).2)):=rfl
theorem X4{f:FV}{l:List Ch}(h0:ju f=true)(h1:j9 f.table l≠0):gJ f l=(f,j9 f.table l):=by
 rw[DA,if_neg (by rw[h0];simp),if_pos h1]
theorem X5{f:FV}{l:List Ch}(h0:ju f=true)(h1:j9 f.table l=0)(h2:yE f l≠0):gJ f l=(f,yE f l):=by
 rw[DA,if_neg (by rw[h0];simp),if_neg (fun h=>h h1),if_pos h2]
theorem X6{f:FV}{l:List Ch}(h0:ju f=true)(h1:j9 f.table l=0)(h2:yE f l=0)(h3:kz (mh f) (lF f l)=[]):gJ f l=(⟨f.aq,eU f.table l⟩,0):=by
 rw[DA,if_neg (by rw[h0];simp),if_neg (fun h=>h h1),if_neg (fun h=>h h2),if_pos h3]
theorem X7{f:FV}{l:List Ch}(h0:ju f=true)(h1:j9 f.table l=0)(h2:yE f l=0)(h3: ¬kz (mh f) (lF f l)=[]):gJ f l=(⟨(gI f.aq (kz (mh f) (lF f l))).1,if(gI f.aq (kz (mh f) (lF f l))).2≠0 then f.table else eU f.table l⟩,(gI f.aq (kz (mh f) (lF f l))).2):=by
 rw[DA,if_neg (by rw[h0];simp),if_neg (fun h=>h h1),if_neg (fun h=>h h2),if_neg h3]
def yF(f:FV):Bool:=bl f.aq.ai&&decide (f.aq.at_.length<=1000000)&&decide (f.table.length<=1000000)
end Go.Kb
namespace Go.Proofs.YtkggjjnhnjjokaaGreatDoor
open Go.ay Go.Kb
theorem X8(a b:Int):kK Tryz.prog 74 [.int .i64 a, .int .i64 b] (.int .i64 (mc a b)):=⟨fun w=>by
 refine cD Tryz.func74 rfl Tryz.ntmps74 rfl ?_;refine aQ ?_;refine aV rfl rfl rfl (fun hg=>(ba rfl).yl) (aV rfl rfl rfl (fun hg=>(da (au hg rfl) rfl rfl).yl) (ao ?_));refine aV rfl rfl rfl (fun hg=>(ba rfl).yl) (aV rfl rfl rfl (fun hg=>(da (au hg rfl) rfl rfl).yl) (ao ?_));refine aV rfl rfl rfl (fun hg=>(ba rfl).yl) (aV rfl rfl rfl (fun hg=>(da (au hg rfl) rfl rfl).yl) (ao ?_));refine ig rfl (fun h0=>?_) (fun h0=>?_)
 ·
  simp only[anp,decide_eq_true_eq]at h0;refine aj ?_;refine cY (.inl rfl) (iT rfl rfl) (fun w hw=>?_);exact⟨congrArg (fun b=>Ending.returned (Value.int .i64 b)) ((if_pos oM).symm),hw.sub (amJ _)⟩
 simp only[Bool.or_eq_false_iff,decide_eq_false_iff_not]at h0;have hq:b/20<=12:=by omega
 have pH:0<=b/20:=by omega
 have hm:a*(b/20)<=64*12:=aoL oM hq pH (by decide);have rU:0<=a*(b/20):=aoM oM pH;refine aj ?_;refine ae (kL rfl rfl oM oM) (ae (jX rfl rfl oM) (ae (EB rfl rfl) (ao ?_)));refine cY (.inl rfl) (iT rfl rfl) (fun w hw=>?_);exact⟨congrArg (fun b=>Ending.returned (Value.int .i64 b)) ((if_neg oM).symm),hw.sub (amJ _)⟩⟩
instance aij(a b:Int):kK Tryz.prog 74 [.int .i64 a, .int .i64 b] (.int .i64 (mc a b)):=X8 a b
def AM:Array Value:=Array.replicate 20 (.int .u8 0)
theorem qA:AM.size=20:=by simp[AM]
instance:dH Tryz.prog 317 (.agg AM):=⟨by kernel_rfl⟩
theorem OH(k:Key):(bw k).all (·.oneCell')=true:=(inferInstance:eY (bw k) 16).one
theorem X9(w0 w:World)(L:List ah)(s:Sv)(xs:List UInt8)(r:Rt)(hw:Mem w0 (own aL 1 s xs::L) w)(hl:xs.length<=1000000):Calls Tryz.prog 170 #[s.val, .agg (av r)] w fun e w'=> ∃s':Sv,e= .returned s'.val/\s'.Ok/\s'.len=xs.length+20/\Mem w0 (own aL 1 s' (xs++gU r)::L) w':=by
 refine fI (args:=[_,_]) Tryz.func170 rfl Tryz.ntmps170 rfl hw ?_;change Cw _ _ _ _ _ [(0,s.val),(1, .agg (av r))] (own aL 1 s xs::L);refine Gc ?_;refine bJ rfl fun b3=>ao ?_;refine bc fun b5=>aQ ?_;refine ig rfl (fun h0=>?_) (fun h0=>?_)
 ·
  simp only[decide_eq_true_eq]at h0;refine Gi ?_;refine ae (iR rfl rfl oM oM) (cR rfl rfl (by simp[qA]) rfl rfl (an ?_));refine ae (sE rfl (ya _)) (ae (iR rfl rfl oM oM) (cR rfl rfl (by simp[qA]) rfl rfl (iY ?_)));refine uc 4 [] oK oK ?_;simp only[ane,amL];refine bm (Jy rfl rfl (by decide) (by decide)) (ao ?_);refine bm (vu rfl) (sG (sH ?_));simp only[anK,anh];refine EG (vs:=bw r.p.key) rfl rfl (by rw[du];rfl) (fun w hw j hj=>by rw[Addr.gl,hw.cell (i:=1) rfl];exact(lu r (2+j) (by rw[du]at hj;omega)).trans (om r.p j)) (OH _) (by simp[du,qA]) rfl (aj ?_);refine ae (ub (p:=r.eC.toNat) rfl rfl (ant r.eC.toNat_lt (by decide)) (by decide)) (ae (zF (n:=r.eC.toNat/256) rfl rfl) (ae (iR rfl rfl oM oM) (cR rfl rfl (by simp[mE,du,qA]) rfl rfl (aj ?_))));refine ae (zF (n:=r.eC.toNat) rfl rfl) (ae (iR rfl rfl oM oM) (cR rfl rfl (by simp[mE,du,qA]) rfl rfl (ao ?_)));refine ae (vu rfl) (jY (ys:=gU r) rfl rfl (by decide) (fun w hw=>gP (s:=⟨false,b5,0,20,20,none⟩) Tryz.underlying53 (by decide) (B6 (MS r (by simp[qA]) (by simp[AM,h0])) (rD r) (by decide) w hw)) (by rw[rD];omega) (by rw[rD];omega) fun HK HL HM=>ao ?_);refine cY (.inl rfl) (iT rfl rfl) (fun w hw=>?_);exact⟨HK,rfl,HL,HM.trans (by rw[adr,rD]),hw.sub (List.Sublist.cons _ (List.Sublist.cons _ (List.Sublist.refl _)))⟩
 simp only[decide_eq_false_iff_not]at h0;refine an ?_;refine ae (sE rfl (ya _)) (ae (iR rfl rfl oM oM) (cR rfl rfl (by simp[qA]) rfl rfl (iY ?_)));refine uc 4 [] oK oK ?_;simp only[ane,amL];refine bm (Jy rfl rfl (by decide) (by decide)) (ao ?_);refine bm (vu rfl) (sG (sH ?_));simp only[anK,anh];refine EG (vs:=bw r.p.key) rfl rfl (by rw[du];rfl) (fun w hw j hj=>by rw[Addr.gl,hw.cell (i:=1) rfl];exact(lu r (2+j) (by rw[du]at hj;omega)).trans (om r.p j)) (OH _) (by simp[du,qA]) rfl (aj ?_);refine ae (ub (p:=r.eC.toNat) rfl rfl (ant r.eC.toNat_lt (by decide)) (by decide)) (ae (zF (n:=r.eC.toNat/256) rfl rfl) (ae (iR rfl rfl oM oM) (cR rfl rfl (by simp[mE,du,qA]) rfl rfl (aj ?_))));refine ae (zF (n:=r.eC.toNat) rfl rfl) (ae (iR rfl rfl oM oM) (cR rfl rfl (by simp[mE,du,qA]) rfl rfl (ao ?_)));refine ae (vu rfl) (jY (ys:=gU r) rfl rfl (by decide) (fun w hw=>gP (s:=⟨false,b5,0,20,20,none⟩) Tryz.underlying53 (by decide) (B6 (MS r (by simp[qA]) (by simp[AM,h0])) (rD r) (by decide) w hw)) (by rw[rD];omega) (by rw[rD];omega) fun HK HL HM=>ao ?_);refine cY (.inl rfl) (iT rfl rfl) (fun w hw=>?_);exact⟨HK,rfl,HL,HM.trans (by rw[adr,rD]),hw.sub (List.Sublist.cons _ (List.Sublist.cons _ (List.Sublist.refl _)))⟩
theorem Ya(w:World)(s:Sv)(xs:List Rt)(hs:dL av 19 (hp w) s xs):Calls Tryz.prog 13 #[s.val] w fun e w'=>e= .returned (.bool (iD xs))/\Mem w [] w':=by
 refine bQ Tryz.func13 rfl Tryz.ntmps13 rfl ?_;refine an ?_;refine ae (zy rfl hs.ok hs.len) (ao ?_);refine ig rfl (fun h0=>?_) (fun h0=>?_)
 ·
  simp only[decide_eq_true_eq]at h0;refine aj ?_;refine cY (.inl rfl) (iT rfl rfl) (fun w hw=>?_);exact⟨congrArg (fun b=>Ending.returned (Value.bool b)) ((Kt oM).symm),hw.sub (amJ _)⟩
 simp only[decide_eq_false_iff_not]at h0;refine ao ?_;refine ae (zy rfl hs.ok hs.len) (ao ?_);refine bI (X:=Nat) (fun i=>[(10, .int .i64 (i:Nat)),(9, .int .i64 (xs.length:Nat)),(8,s.val),(0,s.val)]) (fun i=>[]) (fun i=>i<=xs.length/\sN xs i=true) (fun i=>xs.length -i) 0 ⟨by omega,SC xs⟩ sb (fun w hw=>hw) ?_;rintro i ⟨bf,aF⟩;refine aj ?_;refine ig rfl (fun h1=>?_) (fun h1=>?_)
 ·
  simp only[decide_eq_true_eq]at h1;have bx:i<xs.length:=by omega
  obtain⟨r,hr⟩:=get_some bx;obtain⟨q,hq⟩:=get_some (xs:=xs) (i:=i -1) oM;refine ao ?_;refine ae (mC rfl rfl rfl hs.ok (by rw[hs.len];omega)) (ae (JP rfl (EL hs) hr rfl) (bc fun b4=>an ?_));refine ae (dy rfl) (ck (pW rfl) (ao ?_));refine ig rfl (fun h2=>?_) (fun h2=>?_)
  ·
   refine aj ?_;refine cY (.inl rfl) (iT rfl rfl) (fun w hw=>?_);exact⟨congrArg (fun b=>Ending.returned (Value.bool b)) ((Ku bx (SF hr (by simpa using h2))).symm),hw.sub (amJ _)⟩
  refine Gc ?_;refine gO oK oK (aj ?_);refine eZ rfl rfl rfl (fun hg=>(ba rfl).yl) (eZ rfl rfl rfl (fun hg=>(ba rfl).yl) (eZ rfl rfl rfl (fun hg=>(vr (au hg rfl) rfl oM).yl) (eZ rfl rfl rfl (fun hg=>(mC (i:=i -1) (au hg rfl) (au hg rfl) (by have:=of_decide_eq_true hg;omega) hs.ok (by rw[hs.len];omega)).yl) (eZ rfl rfl rfl (fun hg=>(aK (au hg rfl) rfl).yl) (eZ rfl rfl rfl (fun hg=>(JQ (j:=0) (au hg rfl) (EL hs) hq rfl (by decide)).yl) (eZ rfl rfl rfl (fun hg=>(aK (o':=0) rfl rfl).yl) (eZ rfl rfl rfl (fun hg=>(dy (au hg rfl)).yl) (eZ rfl rfl rfl (fun hg=>pW (dB (au hg rfl) (dB (au hg rfl) gk))) (eZ rfl rfl rfl (fun hg=>(kg (au hg rfl)).yl) (ao ?_))))))))));refine ig rfl (fun h3=>?_) (fun h3=>?_)
  ·
   refine aj ?_;refine cY (.inl rfl) (iT rfl rfl) (fun w hw=>?_);exact⟨congrArg (fun b=>Ending.returned (Value.bool b)) ((Ku bx (by rw[Kv hr hq,h3];simp)).symm),hw.sub (amJ _)⟩
  refine aj ?_;refine Gi ?_;exact bg (i+1) ⟨by omega,by rw[SD,aF,Kv hr hq,h3];simpa using h2⟩ oM sb (fun w hw=>hw.sub (amJ _))
 simp only[decide_eq_false_iff_not]at h1;refine aj ?_;refine cY (.inl rfl) (iT rfl rfl) (fun w hw=>?_);exact⟨congrArg (fun b=>Ending.returned (Value.bool b)) ((SE oM (by rwa [show i=xs.length by omega]at aF)).symm),hw.sub (amJ _)⟩
variable {w0:World}{L:List ah}
instance aik{s:Sv}{ss:List Rt}[h:cS w0 L av 19 s ss]:bD Tryz.prog 13 w0 L [s.val] (.bool (iD ss)) True:=⟨fun _ w hw=>Ya w s ss (h.h w hw)⟩
instance:bn cl 18:=⟨lQ,fun p=>(inferInstance:eY (cl p) 18).one⟩
theorem Yb(w:World)(b2 b3:Nat)(s:Sv)(ss:List Rt)(q:cz)(j:Nat)(h2:dL qZ 1 (hp w) ⟨false,b2,0,1,1,none⟩ [s])(h3:dL cl 18 (hp w) ⟨false,b3,0,1,1,none⟩ [q])(hs:dL av 19 (hp w) s ss)(hj:j<ss.length):Calls Tryz.prog 130 #[.int .i64 (j:Nat), .pointer (some ⟨b2,0,none⟩), .pointer (some ⟨b3,0,none⟩)] w fun e w'=>e= .returned (.bool (behind ss q j))/\Mem w [] w':=by
 have g2:Gv w ⟨false,b2,0,1,1,none⟩ qZ 1 [s]:=⟨h2⟩;have g3:Gv w ⟨false,b3,0,1,1,none⟩ cl 18 [q]:=⟨h3⟩;have gs:Gv w s av 19 ss:=⟨hs⟩;refine rr Tryz.func130 rfl Tryz.ntmps130 rfl ?_;refine aj ?_;refine gO oK oK (bm (bB (s:=⟨false,b2,0,1,1,none⟩) (enc:=qZ) (c:=1) (xs:=[s]) (a:=s) (j:=0) (v:=s.val) rfl 0 rfl rfl (by decide)) (Gq ?_));obtain⟨r,hr⟩:=get_some (xs:=ss) (i:=j) oM;refine bm (aY rfl rfl j rfl oM) (bm (aK rfl rfl) (bm (J1 (j:=0) rfl j hr rfl (by decide)) (bm (gq (s:=⟨false,b3,0,1,1,none⟩) (enc:=cl) (c:=18) (xs:=[q]) (a:=q) rfl 0 rfl rfl) (kM (br rfl trivial) (aj ?_)))));refine Gr fun w1 hw=>?_;exact Ge ((by simp only[behind,hr])) hw
theorem Yc(w:World)(n:Nat)(p:Nat->Bool)(f:FuncId)[hf:aC Tryz.prog f](j6:Array Value)(hF: ∀w',Mem w [] w'-> ∀j:Nat,j<n->Calls Tryz.prog f ([Value.int .i64 (j:Nat)]++j6.toList).toArray w' fun e ob=>e= .returned (.bool (p j))/\Mem w' [] ob)(hn:n<=1000000000):Calls Tryz.prog 129 #[.int .i64 (n:Nat), .func (.func f) #[] j6] w fun e w'=>e= .returned (.int .i64 (bs p n:Nat))/\Mem w [] w':=by
 refine cD Tryz.func129 rfl Tryz.ntmps129 rfl ?_;refine ct ?_;refine bI (X:=Nat×Nat) (fun U=>[(5, .int .i64 (U.1:Nat)),(6, .int .i64 (U.2:Nat)),(1, .func (.func f) #[] j6)]) (fun U=>[]) (fun U=>U.1<=U.2/\U.2<=n/\mf p (n+1) U.1 U.2=bs p n) (fun U=>U.2 -U.1) (0,n) ⟨Nat.zero_le _,Nat.le_refl _,rfl⟩ sb (fun w hw=>ag.mem hw) ?_;rintro⟨i,j⟩ ⟨bf,aF,bo⟩;dsimp only;simp only at bf aF bo;refine aG ?_;refine Gb ?_ ?_<;>intro h0
 ·
  refine an ?_;refine ae (iS (n:=i+j) rfl (by simp only[nb];omega)) (ae (ub (p:=i+j) rfl rfl (by simp only[nb];omega) oM) (ae (iS (n:=(i+j)/2^1) rfl (by simp only[nb];omega)) (an ?_)));refine ck (CC rfl rfl (fun w1 nA=>hF w1 nA ((i+j)/2) oM)) (ao ?_);refine Gb ?_ ?_<;>intro h1
  ·
   refine Gi ?_;refine aj ?_;refine fb ?_;exact bg (x:=(i,j)) ((i+j)/2+1,j) ⟨oF,aF,by rw[←bo,Of (show i<j by first|omega|(simp only[];omega)) oF,if_neg (by rw[h1];simp)]⟩ (by simp only;omega) sb (fun w hw=>ag.mem hw)
  refine Gi ?_;refine ao ?_;refine fb ?_;exact bg (x:=(i,j)) (i,(i+j)/2) ⟨oF,oF,by rw[←bo,Of (show i<j by first|omega|(simp only[];omega)) oF,if_pos h1]⟩ (by simp only;omega) sb (fun w hw=>ag.mem hw)
 refine an ?_;refine Gr fun w1 hw=>?_;exact Gf ((by rw[←bo,Xq oM oM])) hw
instance ail{t:Sv}{ts:List Rt}{p:cz}[ht:cS w0 L av 19 t ts]:bD Tryz.prog 62 w0 L [t.val, .agg (cl p)] (.tuple #[.int .i64 ((fk ts p:Nat):Int), .bool (oR ts p)]) (ts.length<=1000000):=⟨fun aw w hw=>by
 have ht:=ht.h w hw;have DB:Gv w t av 19 ts:=⟨ht⟩;refine cD Tryz.func62 rfl Tryz.ntmps62 rfl ?_;refine Gc ?_;refine EF rfl fun b2=>bJ rfl fun b3=>aG ?_;refine ae (F0 (vs:=[.pointer (some ⟨b2,0,none⟩), .pointer (some ⟨b3,0,none⟩)]) rfl) ?_;refine ck (zq (v:= .int .i64 (fk ts p:Nat)) rfl (fun w1 nA=>Yc (f:=130) w1 ts.length (behind ts p) #[.pointer (some ⟨b2,0,none⟩), .pointer (some ⟨b3,0,none⟩)] (fun w2 fE j hj=>Yb w2 b2 b3 t ts p j ((B6 (b:=b2) (cs:=t.val.cells) (enc:=qZ) (xs:=[t]) (n:=1) (by rw[Sv.iC];rfl) rfl (by decide) w1 nA).mono fE.below) ((B6 (b:=b3) (cs:=cl p) (enc:=cl) (c:=18) (xs:=[p]) (n:=1) (by simp[aH]) rfl (by decide) w1 nA).mono fE.below) (((inferInstance:Hd w _ t av 19 ts).h w1 nA).mono fE.below) hj) oM)) ?_;refine ao ?_;refine gO oK oK (aQ ?_);refine eZ rfl rfl rfl (fun hg=>(Ry.yl (bA rfl))) (Gh ?_);refine eZ rfl rfl rfl (fun hg=>(Ry.yl (aY (au hg rfl) (au hg rfl) (fk ts p) rfl (by simp only[Z0,Z1,Z2,Z3,Z4,Z5,Z6,Z7,Z8,Z9]at hg;omega)))) (eZ rfl rfl rfl (fun hg=>(Ry.yl (aK (au hg rfl) rfl))) (eZ rfl rfl rfl (fun hg=>(Ry.yl (J1 (j:=0) (au hg rfl) (fk ts p) (jZ (xs:=ts) (i:=(fk ts p)) (d:=bp) (by simp only[Z0,Z1,Z2,Z3,Z4,Z5,Z6,Z7,Z8,Z9]at hg;omega)) rfl (by decide)))) (eZ rfl rfl rfl (fun hg=>(Ry.yl (fu rfl))) (eZ rfl rfl rfl (fun hg=>(Ry.yl (Ez (au hg rfl) (au hg rfl)))) (an ?_)))));refine Gr fun w1 hw=>?_;exact⟨(by rw[Xr]),ag.mem hw⟩⟩
instance aim{t:Sv}{ts:List Rt}{k:Key}{bits:Int}[ht:cS w0 L av 19 t ts]:bD Tryz.prog 15 w0 L [t.val, .agg (bw k), .int .i64 bits] (.tuple #[.agg (av (yB ts k bits)), .int .i64 (uS ts k bits)]) (True):=⟨fun aw w hw=>by
 have ht:=ht.h w hw;have DB:Gv w t av 19 ts:=⟨ht⟩;refine rr Tryz.func15 rfl Tryz.ntmps15 rfl ?_;refine Gc ?_;refine bJ rfl fun b4=>bc fun b6=>dV ?_;refine aV rfl rfl rfl (fun hg=>(Ry.yl (fu rfl))) (aV rfl rfl rfl (fun hg=>(Ry.yl (cX (zt (au hg rfl) (zt (au hg rfl) (zt (au hg rfl) Jw)))))) (aV rfl rfl rfl (fun hg=>br (dB (au hg rfl) gk) trivial) (aV rfl rfl rfl (fun hg=>(Ry.yl (kg (au hg rfl)))) (ao ?_))));refine Gb ?_ ?_<;>intro h0
 ·
  have hk:yA ts k bits=false:=by rw[yA];rcases h0 with h|h;rw[h];rfl;rw[h];simp
  refine Gc ?_;refine ae (cX rfl) (aj ?_);refine Gr fun w1 hw=>?_;exact⟨(by rw[yB,if_neg (by rw[hk];simp),uS,if_neg (by rw[hk];simp)]),ag.mem hw⟩
 have hr:iD ts=true:=by simpa using h0.1
 have hk:yA ts k bits=true:=by rw[yA,hr];simpa using h0.2
 have hlen:=Lp hr;have hb:bits=32\/bits=128:=((xA _).1 (by simpa using h0.2:bO ⟨bits,bits,k⟩=true)).1;refine an ?_;refine bI (X:=Int) (fun U=>[(8, .int .i64 U),(0,t.val),(2, .int .i64 bits),(4, .pointer (some ⟨b4,0,none⟩)),(6, .pointer (some ⟨b6,0,none⟩))]) (fun U=>[al b6 (av bp) 34,al b4 (bw k) 25]) (fun U=> -1<=U/\U<=bits/\(U<0->rS ts k bits bits.toNat=none)/\(∀m:Nat,U=m->rS ts k bits bits.toNat=rS ts k bits m)) (fun U=>(U+1).toNat) bits ⟨oF,ann _,fun h=>by first|omega|(simp only[];omega),fun m h=>by rw[h];rfl⟩ sb (fun w hw=>ag.mem hw) ?_;rintro n ⟨tz,wE,uT,HN⟩;refine an ?_;refine Gb ?_ ?_<;>intro h1
 ·
  obtain⟨m,rfl⟩: ∃m:Nat,n=(m:Int):=⟨n.toNat,by omega⟩;refine aQ ?_;refine ae (cX rfl) (bc fun b9=>an ?_);refine ck (br rfl oM) (Gs ?_);refine ae (ax (v:= .int .i64 ((fk ts (⟨bits,((m:Nat):Int),(dE k ((m:Nat):Int))⟩:cz):Nat):Int)) rfl rfl) (ae (ax (v:= .bool (oR ts (⟨bits,((m:Nat):Int),(dE k ((m:Nat):Int))⟩:cz))) rfl rfl) (aG ?_));refine Gb ?_ ?_<;>intro h2
  ·
   have DC: ∃r,ts[fk ts ⟨bits,m,dE k m⟩]? =some r/\yz ts k bits m=some r:=by obtain⟨r,_,h8,_⟩:=HB h2;exact⟨r,h8,by rw[yz,if_pos h2,h8]⟩
   obtain⟨r,fW,wF⟩:=DC;have Yd:rS ts k bits bits.toNat=some r:=by rw[HN m rfl];cases m with|zero=>exact wF|succ m=>rw[rS,wF]
   refine aj ?_;refine ae (aY rfl rfl (fk ts ⟨bits,m,dE k m⟩) oM (zz.1 fW).1) ?_;refine ae (gq rfl (fk ts ⟨bits,m,dE k m⟩) fW rfl) (aj ?_);refine Gr fun w1 hw=>?_;exact⟨(by rw[yB,if_pos hk,uS,if_pos hk,Yd];rfl),ag.mem hw⟩
  have DC:yz ts k bits m=none:=by rw[yz,if_neg (by rw[h2];simp)]
  refine an ?_;refine Gi ?_;exact bg (x:=((m:Nat):Int)) ((m:Int) -1) ⟨oF,oF,fun h=>by obtain rfl:m=0:=oF;rw[HN 0 rfl];exact DC,fun m2 h=>by obtain rfl:m=m2+1:=oF;rw[HN _ rfl,rS,DC]⟩ oF sb (fun w hw=>ag.mem hw)
 have kB:rS ts k bits bits.toNat=none:=uT oM;refine Gc ?_;refine ae (cX rfl) (aj ?_);refine Gr fun w1 hw=>?_;exact⟨(by rw[yB,if_pos hk,uS,if_pos hk,kB];rfl),ag.mem hw⟩⟩
instance ain{s:Sv}{ss:List Rt}[hs:cS w0 L av 19 s ss]:bK Tryz.prog 68 w0 L [s.val] (Sv) (fun U=>U.val) (fun U=>own av 19 U ss::L) (fun U=>True) (ss.length<=1000000):=⟨fun aw w hw=>Gk (fun U=>[own av 19 U ss]) hw (by
 have hs:=hs.h w hw;have wG:Gv w s av 19 ss:=⟨hs⟩;refine bQ Tryz.func68 rfl Tryz.ntmps68 rfl ?_;refine an ?_;refine ae (sL Tryz.underlying22 rfl) (Gc ?_);refine Gb ?_ ?_<;>intro h0
 ·
  have e0:ss=[]:=amB.1 (by have:=hs.ok.nil h0;have:=hs.len;omega);refine aj ?_;refine Gr fun w1 hw=>?_;exact⟨Sv.none,rfl,trivial,by rw[e0];exact(ag.mem hw:Mem w [] _).cJ av 19⟩
 refine Gc ?_;refine uj av fun b5=>Gs ?_;refine jY (s:=⟨false,b5,0,0,0,none⟩) (ys:=ss) rfl rfl (by decide) (fun w hw=>gP (s:=s) Tryz.underlying22 (by decide) ((inferInstance:Hd _ _ s av 19 ss).h w hw)) (by simp only[adr,ad2,af0];omega) (by simp only[adr,ad2,af0];omega) fun s7 wH uU=>?_;refine ao ?_;refine Gr fun w1 hw=>?_;exact⟨s7,rfl,trivial,by simpa using hw⟩)⟩
instance:Mm Tryz.prog 200 22 4:=⟨⟨Tryz.f200,Tryz.func200,by kernel_rfl,by kernel_rfl,by kernel_rfl,by kernel_rfl⟩⟩
theorem Ye(w0 w:World)(L:List ah)(s:Sv)(ss:List Rt)(n:Nat)(m:Nat)(hw:Mem w0 (own av 19 s ss::L) w)(aw:n<=m/\m<=ss.length):Calls Tryz.prog 138 #[s.val, .int .i64 (n:Nat), .int .i64 (m:Nat)] w fun e w'=> ∃U:Sv,e= .returned (U.val)/\(True)/\Mem w0 (own av 19 U (ss.take n++ss.drop m)::L) w':=by
 obtain⟨lG,kV⟩:=aw;refine fI (args:=[_,_,_]) Tryz.func138 rfl Tryz.ntmps138 rfl hw ?_;change Cw _ _ _ _ _ [(0,s.val),(1, .int .i64 (n:Nat)),(2, .int .i64 (m:Nat))] (own av 19 s ss::L);refine dV ?_;refine ae (Mk (l:=n) (h:=m) (m:=ss.length) rfl rfl rfl rfl rfl rfl rfl oM oM oM) (aG ?_);refine Gb ?_ ?_<;>intro h0
 ·
  obtain rfl:n=m:=by omega
  refine an ?_;refine Gr fun w1 hw=>?_;exact⟨s,rfl,trivial,by rw[amO];exact hw⟩
 refine iY ?_;refine RU s fun aio=>?_;have bx:n<m:=by omega
 refine Mg (s:=s) inferInstance (by decide) oM fun pre mid T gA uh mN eR cd nK=>?_;have hle:=cd.le;have iZ:=cd.bd;have OI:(aH av (ss.drop m)).length=(ss.length -m)*19:=by rw[gp,amu]
 have Yf:(aH av (ss.take n)).length=n*19:=by rw[gp,amo];congr 1;omega
 have tA:(aH av ss).length=ss.length*19:=gp ss;have Yg:aH av ss=aH av (ss.take m)++aH av (ss.drop m):=by rw[←v8,amO]
 have hlm:(aH av (ss.take m)).length=m*19:=by rw[gp,amo];congr 1;omega
 obtain⟨X,hX⟩: ∃X,aH av ss=aH av (ss.take n)++X:=⟨aH av (ss.drop n),by rw[←v8,amO]⟩;have hXl:n*19+X.length=ss.length*19:=by rw[←tA,hX,adr,Yf]
 obtain⟨r1,fW⟩: ∃r:Sv,r=(⟨false,s.b,s.o,n+(ss.length -m),s.cap,none⟩:Sv):=⟨_,rfl⟩;refine Gi ?_;refine Gs ?_;refine ae (zy rfl cd nK) (Gs ?_);refine iY ?_;refine uc 6 [] oK oK ?_;simp only[ane,amL];refine ao ?_;have OJ:Rg 0 n ss.length:=⟨by omega⟩;refine bm (ue (h:=n) rfl rfl rfl cd oM) (ao ?_);have Yh:Rg m ss.length ss.length:=⟨by omega⟩;refine bm (qW (l:=m) (n:=ss.length) rfl rfl rfl cd nK oM) (sG (sH ?_));simp only[anK,anh];refine Va (D:=s.sub 19 0 n) (S:=s.sub 19 m ss.length) (b:=s.b) (o:=s.o+n*19) (n:=ss.length -m) (vs:=aH av (ss.drop m)) (R:=r1) (cs':=(pre++(aH av (ss.take n)++(aH av (ss.drop m)++(X++mid).drop (aH av (ss.drop m)).length))).toArray) rfl rfl mN eR rfl (by rw[Sv.Am];rfl) mN eR rfl rfl OI (by show n -0+_<=s.cap -0;omega) (fun w hw j v hj=>by
  have jT:=(zz.1 hj).1;rw[OI]at jT;rw[Sv.uz oM];show w.cell? ⟨s.b,_,none⟩=_;rw[hw.cell (inferInstance:Has _ s.b _ _ _).h,anu,amw oM,amC oM,Yg,amw oM,←hj];congr 1;omega) (uf _) (by simp only[am2,adr];omega) (by rw[hX,ams,←ams pre,xQ (by rw[adr];omega),ams]) (by rw[fW,Sv.Am];rfl) ?_
 refine an ?_;refine ae (zy (n:=n+(ss.length -m)) (s:=r1) rfl (by rw[fW];exact⟨(fun h=>by cases h),by simp only;omega,by simp only;omega,fun _=>rfl⟩) (by rw[fW])) (Gs ?_);refine ae (BZ (s:=r1) (l:=n+(ss.length -m)) (h:=ss.length) rfl rfl rfl rfl rfl (by rw[fW];exact⟨(fun h=>by cases h),by simp only;omega,by simp only;omega,fun _=>rfl⟩) oM (by rw[fW];simp only;omega)) ?_;refine Vc (D:=r1.sub 19 (n+(ss.length -m)) ss.length) (b:=s.b) (o:=s.o+(n+(ss.length -m))*19) (n:=m -n) (z:= .agg (av bp)) rfl (by rw[fW];rfl) (by rw[fW];rfl) (by rw[fW];rfl) (by rw[fW,Sv.uz (by show _<s.cap;omega)]) (by show ss.length -(n+(ss.length -m))=_;omega) oM (show(av bp).all (·.oneCell')=true from(inferInstance:bn av 19).one bp) (by simp only[am2,adr,amu];omega) fun Z hZ=>?_;refine an ?_;refine Gr fun w1 hw=>?_;refine⟨r1,rfl,trivial,?_⟩;rw[show(pre++(aH av (ss.take n)++(aH av (ss.drop m)++(X++mid).drop (aH av (ss.drop m)).length)))=(pre++(aH av (ss.take n)++aH av (ss.drop m)))++(X++mid).drop (aH av (ss.drop m)).length from by simp only[ams],xQ (A:=pre++(aH av (ss.take n)++aH av (ss.drop m))) (by simp only[adr];omega),←v8,ams pre]at hw;have fE:=GA (enc:=av) (i:=0) (xs:=ss.take n++ss.drop m) (pre:=pre) hw rfl r1 (by rw[fW];exact⟨(fun h=>by cases h),by simp only;omega,by simp only;omega,fun _=>rfl⟩) (by rw[fW]) (by rw[fW]) (by rw[fW]) (by rw[fW];exact gA.symm) (by rw[fW];simp only[adr,amo,amu];omega) (by rw[fW];simp only[adr,amo,amu];omega);exact fE
instance aip{w0:World}{L R:List ah}{i:Nat}{s:Sv}{ss:List Rt}{n:Nat}{m:Nat}[q:eS L s av 19 ss i][d:bW L i R]:bK Tryz.prog 138 w0 L [s.val, .int .i64 (n:Nat), .int .i64 (m:Nat)] (Sv) (fun U=>U.val) (fun U=>own av 19 U (ss.take n++ss.drop m)::R) (fun U=>True) (n<=m/\m<=ss.length):=⟨fun hp w hw=>Ye w0 w R s ss n m (CB q.h d.h hw) hp⟩
theorem Yi(w0 w:World)(L:List ah)(s:Sv)(ss:List Rt)(v:Sv)(r:Rt)(n:Nat)(hw:Mem w0 (own av 19 s ss::own av 19 v [r]::L) w)(aw:n<=ss.length/\ss.length<=1000000):Calls Tryz.prog 139 #[s.val, .int .i64 (n:Nat),v.val] w fun e w'=> ∃U:Sv,e= .returned (U.val)/\(True)/\Mem w0 (own av 19 U (ss.take n++r::ss.drop n)::L) w':=by
 obtain⟨lG,kV⟩:=aw;refine fI (args:=[_,_,_]) Tryz.func139 rfl Tryz.ntmps139 rfl hw ?_;change Cw _ _ _ _ _ [(0,s.val),(1, .int .i64 (n:Nat)),(2,v.val)] (own av 19 s ss::own av 19 v [r]::L);refine aG ?_;have Yj:Rg n ss.length ss.length:=⟨by omega⟩;refine ae (zK rfl rfl n rfl Yj.h.1) (ao ?_);refine ae (Ry.to (v':= .int .i64 (1:Nat)) (q6 rfl) rfl) (aG ?_);refine Gb ?_ ?_<;>intro h0
 ·
  exfalso;omega
 refine fS ?_;refine Gb ?_ ?_<;>intro h1
 ·
  refine aj ?_;refine jY (s:=s) (ys:=[r]) rfl rfl (by decide) (fun w hw=>gP (s:=v) Tryz.underlying22 (by decide) ((inferInstance:Hd _ _ v av 19 [r]).h w hw)) (by simp only[ad2,af0];omega) (by simp only[ad2,af0];omega) fun Yk aiq air=>?_;refine ao ?_;refine Gr fun w1 hw=>?_;exact⟨Yk,rfl,trivial,by rw[amr oM,List.drop_of_length_le oM];exact ag.mem hw⟩
 refine vY ?_;have bx:n<ss.length:=by omega
 refine CQ (s:=v) (enc:=av) inferInstance (by simp) fun OK w8 ais DD=>?_;have OL:v.len=1:=DD;refine Mg (s:=s) inferInstance (by decide) oM fun pre mid T gA uh mN eR cd nK=>?_;have hle:=cd.le;have iZ:=cd.bd;obtain⟨x,hx⟩:=get_some (xs:=ss) (i:=n) oM;have hA:(aH av (ss.take n)).length=n*19:=by rw[gp,amo];congr 1;omega
 have hB:(aH av (ss.drop n)).length=(ss.length -n)*19:=by rw[gp,amu]
 have rV:(aH av [r]).length=19:=by rw[gp];rfl
 have HO:(aH av [x]).length=19:=by rw[gp];rfl
 have DE:aH av ss=(aH av (ss.take n))++(aH av (ss.drop n)):=by rw[←v8,amO]
 have OM:(aH av (ss.drop n))=(aH av [x])++(aH av (ss.drop (n+1))):=by rw[←v8,anJ bx,show ss[n]=x from(zz.1 hx).2];rfl
 have tA:(aH av ss).length=ss.length*19:=gp ss;have DF:aH av (ss.take n++r::ss.drop n)=(aH av (ss.take n))++((aH av [r])++(aH av (ss.drop n))):=by rw[v8,←v8 [r]];rfl
 have DG:(ss.take n++r::ss.drop n).length=ss.length+1:=by simp only[adr,amo,ad2,amu];omega
 have fH: ∀(w1:World) L',Mem w0 (al s.b (pre++(aH av ss++mid)).toArray T::L') w1-> ∀j u,(aH av ss)[j]? =some u->w1.cell? ⟨s.b,s.o+j,none⟩=some u:=fun w1 L' nA j u hj=>U6 nA gA hj;refine Gi ?_;refine an ?_;refine ae (Vd (n:=s.cap) rfl mN rfl) (ao ?_);refine Gb ?_ ?_<;>intro h2
 ·
  refine aj ?_;refine ae (ue (h:=n) rfl rfl rfl cd oM) (aG ?_);refine Vb (D:=s.sub 19 0 n) (k:=ss.length+1 -n) (p:=n) (m:=ss.length+1) (olds:=(aH av (ss.take n))) rfl oM rfl rfl oM oM mN eR (by decide) Tryz.underlying3 hA (fun w hw j u hj=>by
   have jT:=(zz.1 hj).1;rw[Sv.Am];exact fH w _ hw j u (by rw[DE,amC jT];exact hj)) (by show s.cap -0<n -0+_;omega) (by show(n -0+_)*_<=_;omega) (by show n -0+_<=_;omega) fun uV uW AN ait aiu=>?_
  refine an ?_;refine ae (qW (s:=(⟨false,uV,0,ss.length+1,uW,none⟩:Sv)) (l:=n) (n:=ss.length+1) rfl rfl rfl ⟨(fun h=>by cases h),by simp only;omega,by simp only;omega,fun _=>rfl⟩ rfl oM) (Gs ?_);refine CR (D:=(⟨false,uV,0,ss.length+1,uW,none⟩:Sv).sub 19 n (ss.length+1)) (S:=v) (b:=uV) (o:=n*19) (n:=1) (vs:=(aH av [r])) (cs':=((aH av (ss.take n))++((aH av [r])++AN.drop 19)).toArray) rfl rfl rfl rfl rfl (by rw[Sv.uz (by show n<uW;omega)];exact amX _) OK w8 (by rw[OL];exact Gy (b:=ss.length+1 -n) oM) (by rw[rV]) (fun w hw j u hj=>Mh (enc:=av) (xs:=[r]) (by decide) inferInstance hw hj) (uf _) (by simp only[am2,adr];omega) (by rw[xQ (A:=(aH av (ss.take n))) hA.symm,rV]) ?_;refine iY ?_;refine uc 8 [] oK oK ?_;simp only[ane,amL];refine an ?_;refine bm (qW (s:=(⟨false,uV,0,ss.length+1,uW,none⟩:Sv)) (l:=n+1) (n:=ss.length+1) rfl rfl rfl ⟨(fun h=>by cases h),by simp only;omega,by simp only;omega,fun _=>rfl⟩ rfl oM) (ao ?_);refine bm (qW (l:=n) (n:=ss.length) rfl rfl rfl cd nK oM) (sG (sH ?_));simp only[anK,anh];refine CR (D:=(⟨false,uV,0,ss.length+1,uW,none⟩:Sv).sub 19 (n+1) (ss.length+1)) (S:=s.sub 19 n ss.length) (b:=uV) (o:=(n+1)*19) (n:=ss.length -n) (vs:=(aH av (ss.drop n))) (cs':=(((aH av (ss.take n))++(aH av [r]))++((aH av (ss.drop n))++(AN.drop 19).drop (aH av (ss.drop n)).length)).toArray) rfl rfl rfl rfl rfl (by rw[Sv.uz (by show n+1<uW;omega)];exact amX _) mN eR (Gy (a:=ss.length -n) (b:=ss.length+1 -(n+1)) oM) hB (fun w hw j u hj=>by
   rw[Sv.uz oM,anz];exact fH w _ (hw.sub (by first|exact List.Sublist.refl _|exact anx _ _)) (n*19+j) u (by rw[DE,amw oM,hA,amV];exact hj)) (uf _) (by simp only[am2,adr,amu];omega) (by rw[←ams,xQ (A:=(aH av (ss.take n))++(aH av [r])) (by rw[adr,hA,rV];omega)]) ?_
  refine an ?_;refine Gr fun w1 hw=>?_;refine⟨(⟨false,uV,0,ss.length+1,uW,none⟩:Sv),rfl,trivial,?_⟩;rw[show((aH av (ss.take n))++(aH av [r]))++((aH av (ss.drop n))++(AN.drop 19).drop (aH av (ss.drop n)).length)=[]++(aH av (ss.take n++r::ss.drop n)++(AN.drop 19).drop (aH av (ss.drop n)).length)from by rw[DF];simp only[ams,am6]]at hw;have fE:=GA (enc:=av) (i:=0) (xs:=ss.take n++r::ss.drop n) (pre:=[]) (mid:=(AN.drop 19).drop (aH av (ss.drop n)).length) hw rfl (⟨false,uV,0,ss.length+1,uW,none⟩:Sv) ⟨(fun h=>by cases h),by simp only;omega,by simp only;omega,fun _=>rfl⟩ rfl rfl rfl rfl (by rw[DG]) (by rw[DG];simp only[af0,amu];omega);rw[anP]at fE;exact ag.mem fE
 obtain⟨s1,fX⟩: ∃z:Sv,z=⟨false,s.b,s.o,ss.length+1,s.cap,none⟩:=⟨_,rfl⟩;refine aG ?_;refine ae (Ry.to (v':=s1.val) (ue (h:=ss.length+1) rfl rfl rfl cd oM) (by rw[fX,Sv.sub_eq mN eR])) (ct ?_);refine ae (qW (s:=s1) (l:=n+1) (n:=ss.length+1) rfl rfl rfl (by rw[fX];exact⟨(fun h=>by cases h),by simp only;omega,by simp only;omega,fun _=>rfl⟩) (by rw[fX]) oM) (ae (Ve (V:=v) (D:=s1.sub 19 (n+1) (ss.length+1)) (b:=s.b) (xs:=[r]) rfl rfl (by decide) (by simp) (by rw[fX];rfl) (by rw[fX];rfl) (by rw[fX];rfl) (by simp only[am2,adr];omega)) (ao ?_));refine ig rfl (fun h3=>?_) (fun h3=>?_)
 ·
  replace h3:=bz h3;refine Gi ?_;refine uc 8 [] oK oK ?_;simp only[ane,amL];refine an ?_;refine bm (qW (s:=s1) (l:=n+1) (n:=ss.length+1) rfl rfl rfl (by rw[fX];exact⟨(fun h=>by cases h),by simp only;omega,by simp only;omega,fun _=>rfl⟩) (by rw[fX]) oM) (ao ?_);refine bm (qW (s:=s1) (l:=n) (n:=ss.length+1) rfl rfl rfl (by rw[fX];exact⟨(fun h=>by cases h),by simp only;omega,by simp only;omega,fun _=>rfl⟩) (by rw[fX]) oM) (sG (sH ?_));simp only[anK,anh];refine CR (D:=s1.sub 19 (n+1) (ss.length+1)) (S:=s1.sub 19 n (ss.length+1)) (b:=s.b) (o:=s.o+(n+1)*19) (n:=ss.length -n) (vs:=(aH av (ss.drop n))) (cs':=(pre++((aH av (ss.take n))++((aH av [x])++((aH av (ss.drop n))++((aH av (ss.drop (n+1)))++mid).drop (aH av (ss.drop n)).length)))).toArray) rfl rfl (by rw[fX];rfl) (by rw[fX];rfl) (by rw[fX];rfl) (by rw[fX,Sv.uz (by show _<s.cap;omega)]) (by rw[fX];rfl) (by rw[fX];rfl) (by rw[show ss.length -n=ss.length+1 -(n+1)from by omega];exact U4 (a:=ss.length+1 -n) oM) hB (fun w hw j u hj=>by
   rw[fX,Sv.uz (by show _<s.cap;omega),anz];exact fH w _ hw (n*19+j) u (by rw[DE,amw oM,hA,amV];exact hj)) (uf _) (by simp only[am2,adr];omega) (by
   rw[DE,show pre++(((aH av (ss.take n))++(aH av (ss.drop n)))++mid)=(pre++((aH av (ss.take n))++(aH av [x])))++((aH av (ss.drop (n+1)))++mid)from by rw[OM];simp only[ams],xQ (A:=pre++((aH av (ss.take n))++(aH av [x]))) (by simp only[adr];omega)];simp only[ams]) ?_
  refine aj ?_;refine ae (qW (s:=s1) (l:=n) (n:=ss.length+1) rfl rfl rfl (by rw[fX];exact⟨(fun h=>by cases h),by simp only;omega,by simp only;omega,fun _=>rfl⟩) (by rw[fX]) oM) (Gs ?_);refine CR (D:=s1.sub 19 n (ss.length+1)) (S:=v) (b:=s.b) (o:=s.o+n*19) (n:=1) (vs:=(aH av [r])) (cs':=(pre++((aH av (ss.take n))++((aH av [r])++((aH av (ss.drop n))++((aH av (ss.drop (n+1)))++mid).drop (aH av (ss.drop n)).length)))).toArray) rfl rfl (by rw[fX];rfl) (by rw[fX];rfl) (by rw[fX];rfl) (by rw[fX,Sv.uz (by show _<s.cap;omega)]) OK w8 (by rw[OL];exact Gy (b:=ss.length+1 -n) oM) (by rw[rV]) (fun w hw j u hj=>Mh (enc:=av) (xs:=[r]) (by decide) inferInstance hw hj) (uf _) (by simp only[am2,adr];omega) (by
   rw[←ams pre,xQ (A:=pre++(aH av (ss.take n))) (by rw[adr];omega),rV,←HO,List.drop_left,ams]) ?_
  refine an ?_;refine Gr fun w1 hw=>?_;refine⟨s1,rfl,trivial,?_⟩;rw[show pre++((aH av (ss.take n))++((aH av [r])++((aH av (ss.drop n))++((aH av (ss.drop (n+1)))++mid).drop (aH av (ss.drop n)).length)))=pre++(aH av (ss.take n++r::ss.drop n)++((aH av (ss.drop (n+1)))++mid).drop (aH av (ss.drop n)).length)from by rw[DF];simp only[ams]]at hw;have fE:=GA (enc:=av) (i:=0) (xs:=ss.take n++r::ss.drop n) (pre:=pre) (mid:=((aH av (ss.drop (n+1)))++mid).drop (aH av (ss.drop n)).length) hw rfl s1 (by rw[fX];exact⟨(fun h=>by cases h),by simp only;omega,by simp only;omega,fun _=>rfl⟩) (by rw[fX]) (by rw[fX]) (by rw[fX]) (by rw[fX];exact gA.symm) (by rw[fX,DG]) (by rw[fX,DG];have:=congrArg List.length OM;simp only[adr,amu]at this⊢;omega);rw[anP]at fE;exact ag.mem fE
 exfalso;simp at h3
instance aiv{w0:World}{L R1 L2:List ah}{i j:Nat}{s:Sv}{ss:List Rt}{v:Sv}{r:Rt}{n:Nat}[h:eS L s av 19 ss i][d1:bW L i R1][q:eS R1 v av 19 [r] j][d2:bW R1 j L2]:bK Tryz.prog 139 w0 L [s.val, .int .i64 (n:Nat),v.val] (Sv) (fun U=>U.val) (fun U=>own av 19 U (ss.take n++r::ss.drop n)::L2) (fun U=>True) (n<=ss.length/\ss.length<=1000000):=⟨fun hp w hw=>Yi w0 w L2 s ss v r n (mM h.h d1.h q.h d2.h hw) hp⟩
instance:bn dt 20:=⟨Oi,fun x=>by
 have h:(av x.r).all (·.oneCell')=true:=bn.one x.r;rw[dt,aoz,h];simp[Value.oneCell']⟩
instance (x:Ch):eY (dt x) 20:=⟨Oi x,bn.one x⟩
instance (x:Ch):kJ (dt x) 0 19 (av x.r):=⟨fw _,fun j hj=>by rw[amX];exact Oj x j hj⟩
instance (x:Ch):kJ (dt x) 0 18 (cl x.r.p):=⟨lQ _,fun j hj=>by rw[amX];exact(Oj x j oM).trans (lu x.r j hj)⟩
instance (x:Ch):bH (dt x) 19 (.bool x.gone):=⟨Xu x⟩
instance:dH Tryz.prog 47 (.agg (dt Oh)):=⟨by unfold dt av cl Oh bp;rw[qw];kernel_rfl⟩
theorem Ym{cs vs:Array Value}(h:cs.size=vs.size):over cs 0 vs=vs:=by
 unfold over;apply aol;simp[←h]
theorem Yn(w0 w:World)(L:List ah)(t:Sv)(ts:List Rt)(g:Ch)(hw:Mem w0 (own av 19 t ts::L) w)(aw:ts.length<=1000):Calls Tryz.prog 69 #[t.val, .agg (dt g)] w fun e w'=> ∃U:Sv,e= .returned (.tuple #[U.val, .int .i64 (ib ts g)])/\(True)/\Mem w0 (own av 19 U (mg ts g)::L) w':=by
 have hpn:=Og ts g.r.p;refine fI (args:=[_,_]) Tryz.func69 rfl Tryz.ntmps69 rfl hw ?_;change Cw _ _ _ _ _ [(0,t.val),(1, .agg (dt g))] (own av 19 t ts::L);refine Gc ?_;refine bJ rfl fun b3=>aG ?_;refine ae (dy rfl) (aj ?_);refine Gb ?_ ?_<;>intro h0
 ·
  have hm:bO g.r.p=false:=h0;have he:ib ts g=1:=by rw[ib,if_neg (by rw[hm];simp)]
  refine aG ?_;refine Gr fun w1 hw=>?_;exact⟨t,by rw[he],trivial,by rw[mg,if_neg (by rw[he];decide)];exact ag.mem hw⟩
 have hm:bO g.r.p=true:=h0;refine an ?_;refine ae (dy rfl) (ck (br rfl oM) (Gs ?_));refine ae (ax (v:= .int .i64 ((fk ts g.r.p:Nat):Int)) rfl rfl) (ae (ax (v:= .bool (oR ts g.r.p)) rfl rfl) (ct ?_));refine gm rfl rfl rfl (fun hg=>(Ry.yl (kg (au hg rfl)))) (aj ?_);refine Gb ?_ ?_<;>intro h1
 ·
  have he:ib ts g=6:=by rw[ib,if_pos hm,if_neg (by rw[h1.2];simp),if_pos h1.1]
  refine aG ?_;refine Gr fun w1 hw=>?_;exact⟨t,by rw[he],trivial,by rw[mg,if_neg (by rw[he];decide)];exact ag.mem hw⟩
 refine aG ?_;refine Gb ?_ ?_<;>intro h2
 ·
  have hb:oR ts g.r.p=true:=by rcases h1 with h|h;(rw[h2]at h;cases h);exact h
  have he:ib ts g=0:=by rw[ib,if_pos hm,if_pos hb]
  have hl:mg ts g=ts.take (fk ts g.r.p)++ts.drop ((fk ts g.r.p)+1):=by rw[mg,if_pos he,if_pos h2]
  obtain⟨r0,_,rV,_⟩:=HB hb;have gA:=(zz.1 rV).1;refine an ?_;refine ae (Ry.to (v':= .int .i64 (((fk ts g.r.p)+1:Nat):Int)) (zr rfl rfl oM) rfl) (aW rfl ⟨by omega,by omega⟩ fun kC ON=>aj ?_);refine Gr fun w1 hw=>?_;exact⟨kC,by rw[he],trivial,by rw[hl];exact ag.mem hw⟩
 refine an ?_;refine Gb ?_ ?_<;>intro h3
 ·
  have hb:oR ts g.r.p=true:=h3;have he:ib ts g=0:=by rw[ib,if_pos hm,if_pos hb]
  have hl:mg ts g=ts.set (fk ts g.r.p) g.r:=by rw[mg,if_pos he,if_neg (by rw[h2];simp),if_pos hb]
  obtain⟨r0,_,rV,_⟩:=HB hb;have gA:=(zz.1 rV).1;refine an ?_;refine ae (dy rfl) (ae (aY rfl rfl (fk ts g.r.p) rfl gA) (kj (n:=19) (k:=(fk ts g.r.p)) (j:=0) (a:=r0) (a':=g.r) (xs:=ts) (enc:=av) (c:=19) (v:= .agg (av g.r)) oK rfl rfl rfl rV (bn.one g.r) (fw g.r) (by decide) (Ym (by rw[fw];exact(fw g.r).symm)) (aG ?_)));refine Gr fun w1 hw=>?_;exact⟨t,by rw[he],trivial,by rw[hl];exact ag.mem hw⟩
 refine aQ ?_;refine Gb ?_ ?_<;>intro h4
 ·
  have he:ib ts g=5:=by rw[ib,if_pos hm,if_neg (by rw[h3];simp),if_neg (by rw[h2];simp),if_pos oM]
  refine aG ?_;refine Gr fun w1 hw=>?_;exact⟨t,by rw[he],trivial,by rw[mg,if_neg (by rw[he];decide)];exact ag.mem hw⟩
 have he:ib ts g=0:=by rw[ib,if_pos hm,if_neg (by rw[h3];simp),if_neg (by rw[h2];simp),if_neg oM]
 have hl:mg ts g=ts.take (fk ts g.r.p)++g.r::ts.drop (fk ts g.r.p):=by rw[mg,if_pos he,if_neg (by rw[h2];simp),if_neg (by rw[h3];simp)]
 refine an ?_;refine ae (dy rfl) ?_;refine kO (enc:=av) (vals:=[_]) [g.r] rfl rfl rfl (by decide) (by decide) fun b55=>?_;refine aW rfl ⟨by omega,by omega⟩ fun DH HP=>aj ?_;refine Gr fun w1 hw=>?_;exact⟨DH,by rw[he],trivial,by rw[hl];exact ag.mem hw⟩
instance aiw{w0:World}{L R:List ah}{i:Nat}{t:Sv}{ts:List Rt}{g:Ch}[q:eS L t av 19 ts i][d:bW L i R]:bK Tryz.prog 69 w0 L [t.val, .agg (dt g)] (Sv) (fun U=> .tuple #[U.val, .int .i64 (ib ts g)]) (fun U=>own av 19 U (mg ts g)::R) (fun U=>True) (ts.length<=1000):=⟨fun hp w hw=>Yn w0 w R t ts g (CB q.h d.h hw) hp⟩
instance aix{t:Sv}{ts:List Rt}{l:Sv}{ls:List Ch}[ht:cS w0 L av 19 t ts][hl:cS w0 L dt 20 l ls]:bK Tryz.prog 19 w0 L [t.val,l.val] (Sv) (fun U=> .tuple #[U.val, .int .i64 (j9 ts ls)]) (fun U=>own av 19 U (eU ts ls)::L) (fun U=>True) (ts.length<=1000000):=⟨fun aw w hw=>Gk (fun U=>[own av 19 U (eU ts ls)]) hw (by
 have ht:=ht.h w hw;have hl:=hl.h w hw;have DB:Gv w t av 19 ts:=⟨ht⟩;have pI:Gv w l dt 20 ls:=⟨hl⟩;have qB:=hl.bd;refine cD Tryz.func19 rfl Tryz.ntmps19 rfl ?_;refine dV ?_;refine Gb ?_ ?_<;>intro h0
 ·
  have he:j9 ts ls=1:=if_neg (by rw[h0];simp);have ha:eU ts ls=ts:=by rw[eU,if_neg (by rw[he];decide)]
  refine ao ?_;refine aW rfl oM fun kD wI=>aj ?_;refine Gr fun w1 hw=>?_;exact⟨kD,by rw[he],trivial,by rw[ha];exact ag.mem hw⟩
 have hr:iD ts=true:=h0;have hlen:=Lp hr;refine ao ?_;refine aW rfl oM fun aA jQ=>aQ ?_;refine bI (X:=Nat×Sv×List Rt) (fun U=>[(19, .int .i64 (U.1:Nat)),(6,U.2.1.val),(0,t.val),(17,l.val),(18, .int .i64 (ls.length:Nat))]) (fun U=>[own av 19 U.2.1 U.2.2]) (fun U=>U.1<=ls.length/\pE ts ls=pE U.2.2 (ls.drop U.1)/\U.2.2.length<=256) (fun U=>ls.length -U.1) (0,aA,ts) ⟨Nat.zero_le _,rfl,hlen⟩ sb (fun w hw=>ag.mem hw) ?_;rintro⟨i,s1,q⟩ ⟨bf,aF,bo⟩;dsimp only;simp only at bf aF bo;refine aj ?_;refine Gb ?_ ?_<;>intro h1
 ·
  refine kp ?_;obtain⟨g,hg⟩:=get_some (xs:=ls) (i:=i) oM;refine ae (aY rfl rfl i rfl oM) (ae (gq rfl i hg rfl) (bc fun b8=>aQ ?_));refine aW rfl oM fun jR qC=>Gs ?_;refine ae (ax (v:=jR.val) rfl rfl) (ae (ax (v:= .int .i64 (ib q g)) rfl rfl) (aQ ?_));refine Gb ?_ ?_<;>intro h2
  ·
   have OO: ¬ib q g=0:=h2;have ef:pE ts ls=(q,ib q g):=by rw[aF,Ol hg,if_neg OO]
   have he:j9 ts ls=ib q g:=by rw[j9,if_pos hr,ef]
   have ha:eU ts ls=ts:=by rw[eU,if_neg (by rw[he];exact OO)]
   refine ao ?_;refine aW rfl oM fun az uX=>an ?_;refine Gr fun w1 hw=>?_;exact⟨az,by rw[he],trivial,by rw[ha];exact ag.mem hw⟩
  refine aj ?_;refine Gi ?_;exact bg (x:=(i,s1,q)) (i+1,jR,mg q g) ⟨oF,by rw[aF,Ol hg,if_pos h2],Xv bo g⟩ (by simp only;omega) sb (fun w hw=>ag.mem hw)
 obtain rfl:i=ls.length:=by omega
 have ef:pE ts ls=(q,0):=by rw[aF,aob];rfl
 have he:j9 ts ls=0:=by rw[j9,if_pos hr,ef]
 have ha:eU ts ls=q:=by rw[eU,if_pos he,ef]
 refine aG ?_;refine Gr fun w1 hw=>?_;exact⟨s1,by rw[he],trivial,by rw[ha];exact ag.mem hw⟩)⟩
end Go.Proofs.YtkggjjnhnjjokaaGreatDoor
namespace Go.ay
open Go.RowKit
section
variable {P:Program} {N:cc} {w0:World} {env:Env} {L:List ah} {d:Option Tmp} {ty:TypeId} {ps:String} {af:Array Edge} {gd:Option (Nat×Bool)}
class kZ(w0:World)(L:List ah)(b:Nat)(cs:outParam (Array Value))(T:outParam TypeId):Prop where
 h: ∀w,Mem w0 L w->w.heap[b]? =some (.cells cs T (0,0))
class pJ(w0:World)(b:Nat)(cs:outParam (Array Value))(T:outParam TypeId):Prop where
 h:w0.heap[b]? =some (.cells cs T (0,0))
instance (priority:=high) kZ.has {b i:Nat}{cs:Array Value}{T:TypeId}[q:Has L b cs T i]:kZ w0 L b cs T:=⟨fun w hw=>hw.block q.h⟩
instance kZ.old{b:Nat}{cs:Array Value}{T:TypeId}[q:pJ w0 b cs T]:kZ w0 L b cs T:=⟨fun w hw=>by
 have bx:b<w0.heap.size:=by
  rcases amv b w0.heap.size with h|h
  ·
   exact h
  have:=q.h;simp[amE h]at this
 rw[hw.below.block b bx];exact q.h⟩
theorem kZ.cell{b:Nat}{cs:Array Value}{T:TypeId}(q:kZ w0 L b cs T){w:World}(hw:Mem w0 L w)(o:Nat):w.cell? ⟨b,o,none⟩=cs[o]? :=by
 simp[World.cell?,q.h w hw]
theorem mi{t:TypeId}{x:Operand}{b o:Nat}{cs:Array Value}{T:TypeId}{v:Value}(hx:ev env x=some (.pointer (some ⟨b,o,none⟩)))[ht:ft P t][hi:kZ w0 L b cs T][hc:bH cs o v]:
  Ry P N w0 env L ⟨d, .load t x,ty,ps,af,gd⟩ v:=xd ht hx fun w hw=>by rw[hi.cell hw];exact hc.h
theorem Yo{t:TypeId}{x:Operand}{b o n:Nat}{cs sub:Array Value}{T:TypeId}(hx:ev env x=some (.pointer (some ⟨b,o,none⟩)))[ht:eX P t n][hi:kZ w0 L b cs T][hs:kJ cs o n sub]:
  Ry P N w0 env L ⟨d, .load t x,ty,ps,af,gd⟩ (.agg sub):=zp ht hx hs.size fun w hw j hj=>by rw[Addr.gl,hi.cell hw];exact hs.h j hj
end
section
variable {w0:World} {L:List ah}
theorem tB{w0 w:World}{L R1 R2 R3:List ah}{e1 e2 e3:ah}{i j k:Nat}(h1:L[i]? =some e1)(d1:L.eraseIdx i=R1)(h2:R1[j]? =some e2)(d2:R1.eraseIdx j=R2)(h3:R2[k]? =some e3)(d3:R2.eraseIdx k=R3)(h:Mem w0 L w):Mem w0 (e1::e2::e3::R3) w:=by
 subst d1;subst d2;subst d3;exact h.perm ((mH h1).trans (((mH h2).trans ((mH h3).cons _)).cons _))
theorem OP{w0 w:World}{L R1 R2 R3 R4:List ah}{e1 e2 e3 e4:ah}{i j k l:Nat}(h1:L[i]? =some e1)(d1:L.eraseIdx i=R1)(h2:R1[j]? =some e2)(d2:R1.eraseIdx j=R2)(h3:R2[k]? =some e3)(d3:R2.eraseIdx k=R3)(h4:R3[l]? =some e4)(d4:R3.eraseIdx l=R4)(h:Mem w0 L w):Mem w0 (e1::e2::e3::e4::R4) w:=by
 subst d1;subst d2;subst d3;subst d4;exact h.perm ((mH h1).trans (((mH h2).trans (((mH h3).trans ((mH h4).cons _)).cons _)).cons _))
end
variable {w0:World}{L:List ah}
instance (priority:=low) Hd.tail{e:ah}{s:Sv}{α:Type}{enc:α->Array Value}{c:Nat}{xs:List α}[q:Hd w0 L s enc c xs]:Hd w0 (e::L) s enc c xs:=⟨fun w hw=>q.h w (hw.sub (anx _ _))⟩
instance (priority:=low) aU.tail{e:ah}{τ:Type}[Deep τ]{a:τ}[q:aU w0 L a]:aU w0 (e::L) a:=⟨fun w hw=>q.h w (hw.sub (anx _ _))⟩
theorem Yp{P:Program}{N:cc}{env:Env}{α:Type}{enc:α->Array Value}{c n:Nat}{t e:TypeId}{cf:Nat}{z:Value}{x y:Operand}{d:Option Tmp}{ty:TypeId}{ps:String}{af:Array Edge}{gd:Option (Nat×Bool)}{k k':IntKind}{ix iy:Int}[he:bn enc c][ht:dC P t e c cf][hz:dH P e z](x0:α)(h0:enc x0=z.cells)(hx:ev env x=some (.int k ix))(hy:ev env y=some (.int k' iy))(ex:ix=(n:Int))(ey:iy=(n:Int))(hb:cf*n<=281474976710656)(fQ:n<=140737488355328):
  ∀a,cM N env a->sO P ⟨d, .makeSlice t x y,ty,ps,af,gd⟩ a.eval (nM enc c n (List.replicate n x0)):=fun a ha w0 w L hw=>by
 subst ex ey;obtain⟨w',h1,h2⟩:=ER ht hz (k:=k) (k':=k') (n:=n) x0 h0 (amz _) hb fQ w;exact⟨w.heap.size,w',by simp only[execOp,ha.ev hx,ha.ev hy,Sem.run_bind,h1,Result.andThen,Sem.run_pure],hw.call h2⟩
def rW(f:FuncId):Array Value:= #[.func (.func f) #[] #[]]
instance:bn rW 1:=⟨fun _=>rfl,fun _=>by simp[rW,Value.oneCell']⟩
instance (f:FuncId):bH (rW f) 0 (.func (.func f) #[] #[]):=⟨rfl⟩
class qD(P:Program)(w0:World)(L:List ah)(f:FuncId)(j6:Array Value){α:outParam Type}(enc:outParam (α->Array Value))(R:outParam (α->Bool)):Prop where
 fn:aC P f
 h: ∀w,Mem w0 L w-> ∀x,Calls P f ((Value.agg (enc x)::j6.toList).toArray) w fun e w'=>e= .returned (.bool (R x))/\Mem w [] w'
theorem qD.at{P:Program}{w0:World}{L:List ah}{f:FuncId}{j6:Array Value}{α:Type}{enc:α->Array Value}{R:α->Bool}(q:qD P w0 L f j6 enc R){w:World}(hw:Mem w0 L w):qD P w [] f j6 enc R:=
 ⟨q.fn,fun w1 h1 x=>q.h w1 (by simpa using hw.call h1) x⟩
end Go.ay
namespace Go.Kb
section
variable {α:Type} (f:α->Nat)
variable {f}
end
section
variable {α:Type} {f:α->Nat} {xs ys zs:List α} {a b m i j k s e:Nat}
def OQ(xs:List α)(i j:Nat):List α:=(xs.drop i).take (j -i)
theorem parts(h1:a<=b)(h2:b<=xs.length):xs=xs.take a++OQ xs a b++xs.drop b:=by
 rw[OQ,ams]
 conv=>lhs;rw[←amO a xs,←amO (b -a) (xs.drop a),aox,show a+(b -a)=b by omega]
end
end Go.Kb
namespace Go.ay
open Go.RowKit Go.Kb
section
variable {P:Program} {w0 w:World} {L:List ah} {α:Type} {enc:α->Array Value} {c:Nat} {s:Sv} {xs:List α}
end
section
variable {P:Program} {N:cc} {w0:World} {env:Env} {L:List ah} {l:List Oper} {Q:Exit->Act->World->Prop} {rest:List Oper} {d:Option Tmp} {ty:TypeId} {ps:String} {af:Array Edge} {gd:Option (Nat×Bool)}
theorem Yq{f:FuncId}{fn:Func}{e:Array Value→Sem Value}{xs:List Operand}{ts:Array TypeId}{vs:List Value}(hf:P.funcs[f]? =some fn)(Yr:(fn.name== "runtime.NumGoroutine")=false)(hb:fn.body.isNone=true)(hn:Extern.findNext fn=none)(he:Extern.find fn=some e)(hx:gh env xs=some vs)
  (h: ∀w,Mem w0 L w-> ∃v w' L',(e vs.toArray).run P w= .ok v w'/\Mem w0 L' w'/\Sq P N w0 l Q rest (bZ env d v) L') (hd:cN N d=true:=by rfl):
  Sq P N w0 l Q (⟨d, .call {callee:= .value (.func f),args:=xs.toArray,argTypes:=ts},ty,ps,af,none⟩::rest) env L:=
 lj rfl hd fun a w ha hw=>by
  obtain⟨v,w',L',h1,h2,h3⟩:=h w hw;refine⟨v,w',L',?_,h2,h3⟩;have hm:=ha.gh hx;have hr:=run_callFunc_extern hf Yr hb hn he vs.toArray w;rw[h1]at hr;simp[execOp,resolve,Act.eval,Deferred.ofValue,invoke,←hm]at hr⊢;rw[hr]
end
theorem iJ{P:Program}{fn:Func}{N:cc}{env:Env}{w0:World}{L:List ah}(hf:fn.results= #[]): ∀a w,cM N env a->Mem w0 L w->(results fn a.tmps).run P w= .ok (.tuple #[]) w:=fun a w _ _=>by
 simp[results,hf]
section
variable {P:Program} {w0:World} {env:Env}
theorem OR{N:cc}{L:List ah}{d:Option Tmp}{ty:TypeId}{ps:String}{af:Array Edge}{gd:Option (Nat×Bool)}{t:TypeId}{x:Operand}{p:Addr}{v:Value}[ht:ft P t](hx:ev env x=some (.pointer (some p)))(hc:w0.cell? p=some v):Ry P N w0 env L ⟨d, .load t x,ty,ps,af,gd⟩ v:=
 xd ht hx fun w hw=>(hw.below.cell (by
  unfold World.cell? at hc
  cases ho:w0.heap[p.block]?with
  |none=>simp[ho]at hc
  |some o=>exact(anE.1 ho).1)).trans hc
end
section
variable {P:Program} {N:cc} {w0:World} {env:Env} {L:List ah} {l:List Oper} {Q:Exit->Act->World->Prop} {rest:List Oper} {d:Option Tmp} {ty:TypeId} {ps:String} {af:Array Edge} {K:Value->List ah->Prop}
instance bH.one{v:Value}:bH #[v] 0 v:=⟨rfl⟩
theorem Ys{t:TypeId}{x:Operand}{v:Value}(hc:v.cells= #[v])(hx:ev env x=some v)(hk: ∀b,Sq P N w0 l Q rest (bZ env d (.pointer (some ⟨b,0,none⟩))) (al b #[v] t::L))(hd:cN N d=true:=by rfl):
  Sq P N w0 l Q (⟨d, .box t x,ty,ps,af,none⟩::rest) env L:=EF hx (by rw[hc];exact hk) hd
theorem Yt{t:TypeId}{z:Value}[hz:dH P t z](hc:z.cells= #[z])(hk: ∀b,Sq P N w0 l Q rest (bZ env d (.pointer (some ⟨b,0,none⟩))) (al b #[z] t::L))(hd:cN N d=true:=by rfl):
  Sq P N w0 l Q (⟨d, .alloc t,ty,ps,af,none⟩::rest) env L:=JD (z:=z) (by rw[hc];exact hk) hd
theorem Yu{t:TypeId}{x y:Operand}{i b:Nat}{u:Value}{T:TypeId}{v:Value}(hv:v.oneCell'=true)(hx:ev env x=some (.pointer (some ⟨b,0,none⟩)))(hy:ev env y=some v)[ht:ft P t][hh:Has L b #[u] T i]{L':List ah}[hu:eK L i (al b #[v] T) L'](hk:Sq P N w0 l Q rest env L'):
  Sq P N w0 l Q (⟨none, .store t x y,ty,ps,af,none⟩::rest) env L:=cR (cs':= #[v]) hx hy (by show 0<1;decide) hv rfl hk
end
theorem Yv{P:Program}{N:cc}{w0:World}{env:Env}{L:List ah}{l:List Oper}{Q:Exit->Act->World->Prop}{rest:List Oper}{ty:TypeId}{ps:String}{af:Array Edge}{t:TypeId}{x y:Operand}{i k p:Nat}{s:Sv}{xs:List UInt8}{a v:UInt8}[ht:ft P t](hx:ev env x=some (.pointer (some ⟨s.b,p,none⟩)))(hy:ev env y=some (.int .u8 v.toNat))[q:eS L s aL 1 xs i](ha:xs[k]? =some a)(gY:p=s.o+k*1){L':List ah}[hu:eK L i (own aL 1 s (xs.set k v)) L'](hk:Sq P N w0 l Q rest env L'):
  Sq P N w0 l Q (⟨none, .store t x y,ty,ps,af,none⟩::rest) env L:=
 kj (j:=0) (n:=1) (a':=v) ht.size hx hy (q:=q) (by omega) ha (by simp[Value.cells,Value.oneCell']) rfl (by omega) (by rfl) hk
end Go.ay
namespace Go.Proofs.YtkggjjnhnjjokaaGreatDoor
open Go.ay Go.Kb Go.RowKit
structure bP where
 nq:bM
 batch:Sl Ch
 OS:Option Nat
 told:Sl UInt8
def bR(x:bP):Array Value:= #[.int .i64 x.nq.aq.ai.ab, .int .i64 x.nq.aq.ai.size,x.nq.aq.ai.blocks.sv.val, .int .i64 x.nq.aq.ai.ops, .bool x.nq.aq.ai.off,x.nq.aq.ai.bb.sv.val,x.nq.aq.at_.sv.val, .int .u64 x.nq.aq.gen.toNat, .int .i64 x.nq.aq.last,x.nq.table.sv.val,x.batch.sv.val, .pointer (x.OS.map fun b=>⟨b,11,none⟩),x.told.sv.val]
instance (x:bP):bH (bR x) 3 (.int .i64 x.nq.aq.ai.ops):=⟨rfl⟩
instance (x:bP):bH (bR x) 5 (x.nq.aq.ai.bb.sv.val):=⟨rfl⟩
instance (x:bP):bH (bR x) 9 (x.nq.table.sv.val):=⟨rfl⟩
instance (x:bP):bH (bR x) 10 (x.batch.sv.val):=⟨rfl⟩
instance (x:bP):bH (bR x) 11 (.pointer (x.OS.map fun b=>⟨b,11,none⟩)):=⟨rfl⟩
instance (x:bP):bH (bR x) 12 (x.told.sv.val):=⟨rfl⟩
instance (x:bP):kJ (bR x) 0 10 (cV x.nq):=⟨rfl,fun j hj=>by
 match j,hj with
 |0,_=>rfl
 |1,_=>rfl
 |2,_=>rfl
 |3,_=>rfl
 |4,_=>rfl
 |5,_=>rfl
 |6,_=>rfl
 |7,_=>rfl
 |8,_=>rfl
 |9,_=>rfl⟩
instance (x:bP):kJ (bR x) 0 6 (aS x.nq.aq.ai):=⟨rfl,fun j hj=>by
 match j,hj with
 |0,_=>rfl
 |1,_=>rfl
 |2,_=>rfl
 |3,_=>rfl
 |4,_=>rfl
 |5,_=>rfl⟩
def Yw:bP:=⟨kY,⟨Sv.none,[]⟩,none,⟨Sv.none,[]⟩⟩
instance:dH Tryz.prog 174 (.agg (bR Yw)):=⟨by kernel_rfl⟩
theorem Yx(w0 w:World)(L:List ah)(k:Nat)(xf:bM)(xb:Sl Ch)(xa:Option Nat)(xt:Sl UInt8)(hw:Mem w0 (al k (bR (⟨xf,xb,xa,xt⟩:bP)) 174::L) w)(aw:xa=none\/xa=Option.some k):Calls Tryz.prog 265 #[.pointer (some ⟨k,11,none⟩)] w fun e w'=> ∃U:Unit,e= .returned (.tuple #[])/\(U=())/\Mem w0 (al k (bR (⟨xf,xb,Option.some k,xt⟩:bP)) 174::L) w':=by
 refine fI (args:=[_]) Tryz.func265 rfl Tryz.ntmps265 rfl hw ?_;change Cw _ _ _ _ _ [(0, .pointer (some ⟨k,11,none⟩))] (al k (bR (⟨xf,xb,xa,xt⟩:bP)) 174::L);refine an ?_;refine ae (Ry.to (v':= .pointer (Option.map (fun b=>(⟨b,11,none⟩:Addr)) xa)) (bA rfl) rfl) (ae (Ur Tryz.underlying170 rfl rfl) (Gc ?_));refine Gb ?_ ?_<;>intro h0
 ·
  refine Gi ?_;refine ao ?_;refine ae (Ul (j:=Option.get (Tryz.prog.info? 172) oK) Tryz.underlying170 Tryz.underlying333 oK (by decide+kernel) rfl ?_) ?_
  ·
   show 11<13;decide
  refine Yq (fn:=Option.get (Tryz.prog.funcs[316]?) oK) (e:=Extern.AbiNoEscape.same) oK oK oK oK oK rfl (fun w hw=>⟨_,_,_,rfl,hw,?_⟩);refine ae (Um (j:=Option.get (Tryz.prog.info? 172) oK) Tryz.underlying333 Tryz.underlying170 oK rfl oK) (ao ?_);refine cR (cs':=bR (⟨xf,xb,(Option.some k),xt⟩:bP)) rfl rfl (by show 11<13;decide) rfl rfl (Gi ?_);refine cY (.inr rfl) (iJ rfl) (fun w1 hw=>?_);exact⟨(),rfl,rfl,ag.mem hw⟩
 have OT:xa=Option.some k:=by cases xa with|none=>cases h0|some b=>exact aw.resolve_left (fun g=>by cases g)
 refine an ?_;refine ae (Ry.to (v':= .pointer (some ⟨k,11,none⟩)) (bA rfl) (by rw[OT];rfl)) (Gs ?_);refine ae (Us Tryz.underlying170 (j:=Option.get (Tryz.prog.info? 172) oK) oK rfl rfl) (Gc ?_);refine ig rfl (fun h1=>?_) (fun h1=>?_)
 ·
  exfalso;simp at h1
 replace h1:=bz h1;refine Gi ?_;refine cY (.inr rfl) (iJ rfl) (fun w1 hw=>?_);exact⟨(),rfl,rfl,(by rw[←OT];exact ag.mem hw)⟩
instance aiy{w0:World}{L L2:List ah}{i0:Nat}{k:Nat}{xf:bM}{xb:Sl Ch}{xa:Option Nat}{xt:Sl UInt8}[q0:Has L k (bR (⟨xf,xb,xa,xt⟩:bP)) 174 i0][d0:bW L i0 L2]:bK Tryz.prog 265 w0 L [.pointer (some ⟨k,11,none⟩)] (Unit) (fun U=> .tuple #[]) (fun U=>al k (bR (⟨xf,xb,Option.some k,xt⟩:bP)) 174::L2) (fun U=>U=()) (xa=none\/xa=Option.some k):=⟨fun hp w hw=>Yx w0 w L2 k xf xb xa xt (CB q0.h d0.h hw) hp⟩
theorem Yy(w0 w:World)(L:List ah)(k:Nat)(xf:bM)(xb:Sl Ch)(xa:Option Nat)(xt:Sl UInt8)(s:List UInt8)(hw:Mem w0 (al k (bR (⟨xf,xb,xa,xt⟩:bP)) 174::c8 5 xt.sv xt.xs::L) w)(aw:xt.xs.length+s.length<=1000000000/\(xa=none\/xa=Option.some k)):Calls Tryz.prog 226 #[.pointer (some ⟨k,11,none⟩), .string ⟨s.toArray⟩] w fun e w'=> ∃U:Sv,e= .returned (.tuple #[.int .i64 (s.length:Nat), .nilIface])/\(True)/\Mem w0 (al k (bR (⟨xf,xb,(Option.some k),⟨U,xt.xs++s⟩⟩:bP)) 174::c8 5 U (xt.xs++s)::L) w':=by
 obtain⟨wJ,eQ⟩:=aw;refine fI (args:=[_,_]) Tryz.func226 rfl Tryz.ntmps226 rfl hw ?_;change Cw _ _ _ _ _ [(0, .pointer (some ⟨k,11,none⟩)),(1, .string ⟨s.toArray⟩)] (al k (bR (⟨xf,xb,xa,xt⟩:bP)) 174::c8 5 xt.sv xt.xs::L);refine aG ?_;refine aW rfl eQ fun x7 Yz=>aG ?_;refine ae (Ry.to (v':=xt.sv.val) (bA rfl) rfl) (Gs ?_);refine Lt (s:=xt.sv) (ys:=s) rfl rfl (fun w _=>Uk Tryz.underlying9 s w) oM oM fun AO=>ao ?_;refine cR (cs':=bR (⟨xf,xb,(Option.some k),⟨AO,xt.xs++s⟩⟩:bP)) rfl rfl (by show 12<13;decide) (by first|rfl|exact Sv.one _) rfl (ao ?_);refine ae (hH (s:=s) Tryz.underlying9 rfl) (aj ?_);refine Gr fun w1 hw=>?_;exact⟨AO,rfl,trivial,ag.mem hw⟩
instance aiz{w0:World}{L R1 L2:List ah}{i0 i1:Nat}{k:Nat}{xf:bM}{xb:Sl Ch}{xa:Option Nat}{xt:Sl UInt8}{s:List UInt8}[q0:Has L k (bR (⟨xf,xb,xa,xt⟩:bP)) 174 i0][d0:bW L i0 R1][q1:kr R1 xt.sv 5 xt.xs i1][d1:bW R1 i1 L2]:bK Tryz.prog 226 w0 L [.pointer (some ⟨k,11,none⟩), .string ⟨s.toArray⟩] (Sv) (fun U=> .tuple #[.int .i64 (s.length:Nat), .nilIface]) (fun U=>al k (bR (⟨xf,xb,(Option.some k),⟨U,xt.xs++s⟩⟩:bP)) 174::c8 5 U (xt.xs++s)::L2) (fun U=>True) (xt.xs.length+s.length<=1000000000/\(xa=none\/xa=Option.some k)):=⟨fun hp w hw=>Yy w0 w L2 k xf xb xa xt s (mM q0.h d0.h q1.h d1.h hw) hp⟩
theorem YA(w0 w:World)(L:List ah)(k:Nat)(xf:bM)(xb:Sl Ch)(xa:Option Nat)(xt:Sl UInt8)(c:UInt8)(hw:Mem w0 (al k (bR (⟨xf,xb,xa,xt⟩:bP)) 174::c8 5 xt.sv xt.xs::L) w)(aw:xt.xs.length+1<=1000000000/\(xa=none\/xa=Option.some k)):Calls Tryz.prog 250 #[.pointer (some ⟨k,11,none⟩), .int .u8 (c.toNat:Nat)] w fun e w'=> ∃U:Sv,e= .returned (.nilIface)/\(True)/\Mem w0 (al k (bR (⟨xf,xb,(Option.some k),⟨U,xt.xs++[c]⟩⟩:bP)) 174::c8 5 U (xt.xs++[c])::L) w':=by
 obtain⟨wJ,eQ⟩:=aw;refine fI (args:=[_,_]) Tryz.func250 rfl Tryz.ntmps250 rfl hw ?_;change Cw _ _ _ _ _ [(0, .pointer (some ⟨k,11,none⟩)),(1, .int .u8 (c.toNat:Nat))] (al k (bR (⟨xf,xb,xa,xt⟩:bP)) 174::c8 5 xt.sv xt.xs::L);refine an ?_;refine aW rfl eQ fun x6 HQ=>aG ?_;refine ae (Ry.to (v':=xt.sv.val) (bA rfl) rfl) (Gs ?_);refine kO (enc:=aL) (vals:=[_]) [c] rfl rfl rfl (by decide) (by decide) fun gX=>?_;refine Lt (s:=xt.sv) (ys:=[c]) rfl rfl (fun w hw=>gP (s:=⟨false,gX,0,1,1,none⟩) Tryz.underlying53 (by decide) ((inferInstance:Hd _ _ ⟨false,gX,0,1,1,none⟩ aL 1 [c]).h w hw)) (by simp only[ad2,af0];omega) (by simp only[ad2,af0];omega) fun AO=>?_;refine ao ?_;refine cR (cs':=bR (⟨xf,xb,(Option.some k),⟨AO,xt.xs++[c]⟩⟩:bP)) rfl rfl (by show 12<13;decide) (by first|rfl|exact Sv.one _) rfl (aj ?_);refine Gr fun w1 hw=>?_;exact⟨AO,rfl,trivial,ag.mem hw⟩
instance aiA{w0:World}{L R1 L2:List ah}{i0 i1:Nat}{k:Nat}{xf:bM}{xb:Sl Ch}{xa:Option Nat}{xt:Sl UInt8}{c:UInt8}[q0:Has L k (bR (⟨xf,xb,xa,xt⟩:bP)) 174 i0][d0:bW L i0 R1][q1:kr R1 xt.sv 5 xt.xs i1][d1:bW R1 i1 L2]:bK Tryz.prog 250 w0 L [.pointer (some ⟨k,11,none⟩), .int .u8 (c.toNat:Nat)] (Sv) (fun U=> .nilIface) (fun U=>al k (bR (⟨xf,xb,(Option.some k),⟨U,xt.xs++[c]⟩⟩:bP)) 174::c8 5 U (xt.xs++[c])::L2) (fun U=>True) (xt.xs.length+1<=1000000000/\(xa=none\/xa=Option.some k)):=⟨fun hp w hw=>YA w0 w L2 k xf xb xa xt c (mM q0.h d0.h q1.h d1.h hw) hp⟩
theorem YB(w0 w:World)(L:List ah)(k:Nat)(xf:bM)(xb:Sl Ch)(xa:Option Nat)(xt:Sl UInt8)(hw:Mem w0 (al k (bR (⟨xf,xb,xa,xt⟩:bP)) 174::c8 5 xt.sv xt.xs::L) w)(aw:True):Calls Tryz.prog 92 #[.pointer (some ⟨k,11,none⟩)] w fun e w'=> ∃U:Unit,e= .returned (.string ⟨xt.xs.toArray⟩)/\(True)/\Mem w0 (al k (bR (⟨xf,xb,xa,xt⟩:bP)) 174::L) w':=by
 have YC:Tryz.prog.cellsOf 5=1:=by kernel_rfl
 refine fI (args:=[_]) Tryz.func92 rfl Tryz.ntmps92 rfl hw ?_;change Cw _ _ _ _ _ [(0, .pointer (some ⟨k,11,none⟩))] (al k (bR (⟨xf,xb,xa,xt⟩:bP)) 174::c8 5 xt.sv xt.xs::L);refine aj ?_;refine gB [10,1002,1003,1004,1007,1008,1009] [[],[],[],[2],[2,3],[],[],[],[7],[7,8],[2,3,4,7,8,9],[2,3,4,7,8,9,10]] [0,1,2,3,4,5,6,7,8,9,10,11] [al k (bR (⟨xf,xb,xa,xt⟩:bP)) 174] (fun _ hw=>ag.mem hw) oK oK (ak rfl (ba rfl) (ak rfl (fa rfl) (fh rfl (aK (o':=12) rfl rfl) (fh rfl (Ry.to (v':=xt.sv.val) (bA rfl) rfl) (fh rfl (Un (s:=xt.sv) rfl) (ak rfl (ba rfl) (ak rfl (fa rfl) (fh rfl (aK (o':=12) rfl rfl) (fh rfl (Ry.to (v':=xt.sv.val) (bA rfl) rfl) (fh rfl (q6 rfl) (cC rfl (Uo Tryz.underlying256 YC rfl rfl rfl ⟨fun _ hw=>ag.mem hw,?_⟩))))))))))));refine ak rfl (fG rfl) (Gc ?_);refine Gr fun w1 hw=>?_;exact⟨(),rfl,trivial,ag.mem hw⟩
instance aiB{w0:World}{L R1 L2:List ah}{i0 i1:Nat}{k:Nat}{xf:bM}{xb:Sl Ch}{xa:Option Nat}{xt:Sl UInt8}[q0:Has L k (bR (⟨xf,xb,xa,xt⟩:bP)) 174 i0][d0:bW L i0 R1][q1:kr R1 xt.sv 5 xt.xs i1][d1:bW R1 i1 L2]:bK Tryz.prog 92 w0 L [.pointer (some ⟨k,11,none⟩)] (Unit) (fun U=> .string ⟨xt.xs.toArray⟩) (fun U=>al k (bR (⟨xf,xb,xa,xt⟩:bP)) 174::L2) (fun U=>True) (True):=⟨fun hp w hw=>YB w0 w L2 k xf xb xa xt (mM q0.h d0.h q1.h d1.h hw) hp⟩
end Go.Proofs.YtkggjjnhnjjokaaGreatDoor
namespace Go.Kb
open Go.ay
structure bq where
 f:FV
 batch:List Ch
 told:aB
def OU:aB:=[101,114,114,111,114,32]
def tC:aB:=[111,107]
def rX:aB:=[114,111,117,116,101,115,32]
def nT(p:bq)(line:aB):bq:={p with told:=p.told++line++[10]}
def kb(line:aB)(e:Int):aB:=if e≠0 then OU++dec e.toNat else line
def mj(p:bq)(line:aB)(e:Int):bq:=nT p (kb line e)
def mn(p:bq)(x:aO):bq:=
 if qz p.f x.key x.bits≠0 then mj p [] (qz p.f x.key x.bits)else mj p (iG (oV p.f x.key x.bits)) (eo (bO (oV p.f x.key x.bits).p))
def OV(c:CV)(x:aO):CV:={c with bb:=c.bb++[⟨c.ops+x.n.toInt,decide (x.kind=6),decide (x.kind=5),0⟩]}
def qE(p:bq)(x:aO):bq:=
 if 64<=p.f.aq.ai.bb.length then p else{p with f:=⟨{p.f.aq with ai:=OV p.f.aq.ai x},p.f.table⟩}
def kc(p:bq):bq:=
 if lX p.f.aq.ai []≠0 then mj p tC (lX p.f.aq.ai [])
 else if(c6 (oC p.f.aq.ai [])).2≠0 then mj p tC (c6 (oC p.f.aq.ai [])).2
 else mj {p with f:=(c6 (oC p.f.aq.ai [])).1} tC 0
def nU(p:bq)(r:Rt):bq:=mj p (iG r) (eo (bO r.p))
def pK(p:bq):bq:=p.f.table.foldl nU (nT p (rX++dec p.f.table.length))
def dx(p:bq)(x:aO):bq:=
 if x.kind=1 then{p with batch:=p.batch++[⟨x.r,false⟩]}
 else if x.kind=2 then{p with batch:=p.batch++[⟨x.r,true⟩]}
 else if x.kind=3 then mj {p with f:=(gJ p.f p.batch).1,batch:=[]} tC (gJ p.f p.batch).2
 else if x.kind=4 then mn p x
 else if x.kind=5\/x.kind=6 then qE p x
 else if x.kind=7 then kc p
 else if x.kind=8 then pK p
 else p
def mo(p:bq)(l:List aO):bq:=l.foldl dx p
theorem YD{p:bq}{l:List aO}{i:Nat}{x:aO}(h:l[i]? =some x):mo p (l.take (i+1))=dx (mo p (l.take i)) x:=by
 rw[amq,h,mo,anT];rfl
def kE(f:FV):bq:=⟨f,[],[]⟩
def AP(l:List aO):Bool:=l.all et
def jv(s:ox):FV×Int:=pG (jj s.b s.p s.s).1
def rY(s:ox):Bool:=decide (s.l.length<=300)&&AP s.l&&decide ((jj s.b s.p s.s).2=0)&&decide ((jv s).2=0)
def tD(s:ox):aB:=if rY s=true then(mo (kE (jv s).1) s.l).told else[]
def tE(s:ox):Int:=eo (rY s)
def qF(p:bq):Bool:=yF p.f&&decide (p.batch.length<=1000)&&decide (p.told.length<=100000000)
def rZ(p:bq):List aO->Bool
 |[]=>qF p
 |x::r=>qF p&&rZ (dx p x) r
theorem sm_at: ∀{l:List aO} {p:bq} (i:Nat),rZ p l=true->i<=l.length->qF (mo p (l.take i))=true
 |[],p,i,h,hi=>by
  obtain rfl:i=0:=by simpa using hi
  exact h
 |x::r,p,0,h,_=>by
  rw[rZ,alM]at h;exact h.1
 |x::r,p,i+1,h,hi=>by
  rw[rZ,alM]at h;exact sm_at (p:=dx p x) i h.2 (by simpa using hi)
def AQ(s:ox):Bool:= !rY s||rZ (kE (jv s).1) s.l
def wK(t:aB):aB:=if(ez t).2.1≠0 then[]else tD (ez t).1
def wL(t:aB):Int:=if(ez t).2.1≠0 then(ez t).2.1 else tE (ez t).1
def wM(t:aB):Int:=if(ez t).2.1≠0 then(ez t).2.2 else 0
def Er(e:Int):Prop:=0<=e/\e<=9
theorem er(n:Int)(h0:0<=n:=by decide)(h9:n<=9:=by decide):Er n:=⟨h0,h9⟩
theorem jw{c:Prop}[Decidable c]{a b:Int}(ha:Er a)(hb:Er b):Er (if c then a else b):=by split<;>assumption
theorem OW(f:Ft):Er (nR f):=jw (er 7) (er 9)
theorem YE(c:CV)(b g:Int)(p:List UInt8):Er (lA c b g p):=jw (jw (er 7) (jw (er 9) (jw (OW _) (er 0)))) (er 1)
theorem DI(c:CV)(b:Int)(p:List UInt8):Er (cm c b p):=YE _ _ _ _
theorem OX(c:CV)(b:Int):Er (eG c b):=jw (jw (er 7) (jw (er 9) (jw (OW _) (er 0)))) (er 1)
theorem OY: ∀(n:Nat) (c:CV) (b:Int),Er (iI n c b).2
 |0,c,b=>OX c b
 |n+1,c,b=>by
  rw[iI];split
  ·
   exact DI _ _ _
  exact OY n _ b
theorem AR(c:CV)(b:Int):Er (dO c b).2:=OY _ _ _
theorem YF(c:CV)(fl:List Int)(b:Bool):Er (bG c fl b).2.2:=by
 rw[bG];split
 ·
  exact er 0
 split
 ·
  exact er 5
 split
 ·
  exact er 0
 exact AR _ _
theorem HR(p:PV)(n:Int):Er (dX p n).2:=by
 rw[dX];split
 ·
  exact er 0
 exact er 1
theorem YG(p:RV)(n:Int):Er (df p n).2:=by
 rw[df];split
 ·
  exact HR _ _
 exact er 1
theorem HS: ∀(n:Nat) (c:CV) (fl:List Int) (b:Bool) (p:List UInt8),Er (jN n c fl b p).2.2
 |0,_,_,_,_=>er 0
 |n+1,c,fl,b,p=>by
  rw[jN];split
  ·
   split
   ·
    exact er 0
   split
   ·
    exact DI _ _ _
   exact HS n _ fl b p
  split
  ·
   exact YF _ _ _
  exact HS n _ fl b p
theorem YH(c:CV)(fl:List Int)(b:Bool)(p:PV):Er (dw c fl b p).2.2:=by
 rw[dw];split
 ·
  exact HR _ _
 exact HS _ _ _ _ _
theorem YI(c:CV)(l:Int):Er (bN c l).2.2:=by
 rw[bN];split
 ·
  exact er 0
 split
 ·
  exact er 0
 split
 ·
  exact er 9
 exact OX _ _
theorem OZ: ∀(n:Nat) (x:WV) (a:List Int) (b:List UInt8),Er (ni n x a b).2
 |0,_,_,_=>er 0
 |n+1,x,a,b=>by
  rw[ni];split
  ·
   exact YI _ _
  split
  ·
   exact er 0
  split
  ·
   exact DI _ _ _
  exact OZ n _ a b
theorem O0(x:WV)(a:List Int):Er (ia x a).2:=by
 rw[ia];split
 ·
  exact YG _ _
 exact OZ _ _ _ _
theorem YJ(c:CV)(l:List aI):Er (cK c l).2.2:=by
 rw[cK];split
 ·
  exact er 0
 split
 ·
  exact AR _ _
 split
 ·
  exact AR _ _
 exact er 6
theorem DJ{e:Int}(h:Er e):Er (kT e):=jw (er 0) h
theorem HT(v:VV)(src tgt:Int): ∀(l:List Int) (id:Nat) (c:CV) (a:List Int) (e:Int),(dP v src tgt l id c a).e=some e->Er e
 |[],_,_,_,e,h=>by cases h
 |n::r,id,c,a,e,h=>by
  rw[dP]at h;split at h
  ·
   exact HT v src tgt r _ c a e h
  split at h
  ·
   obtain rfl:=amn h;exact er 6
  split at h
  ·
   obtain rfl:=amn h;exact HR _ _
  split at h
  ·
   obtain rfl:=amn h;exact DJ (DI _ _ _)
  exact HT v src tgt r _ _ _ e h
theorem YK(x:WV)(src tgt:Int):Er (di x src tgt).2.2:=by
 rw[di];split
 ·
  rename_i e h;exact HT _ _ _ _ _ _ _ _ h
 exact O0 _ _
theorem YL(c:CV)(l:List aI)(i:Int):Er (c1 c l i).2:=by
 rw[c1];split
 ·
  exact er 0
 exact YJ _ _
theorem YM(x:WV)(l:List aI)(i:Int):Er (iv x l i).2:=by
 rw[iv];split
 ·
  exact DJ (YL _ _ _)
 split
 ·
  exact YK _ _ _
 exact DJ (AR _ _)
theorem O1(x:WV)(l:List aI):Er (nn x l).2:=by
 rw[nn];split
 ·
  exact er 6
 exact DJ (AR _ _)
theorem YN(x:WV):Er (fD x).2:=by
 rw[fD];split
 ·
  split
  ·
   exact YM _ _ _
  exact O1 _ _
 exact O1 _ _
theorem O2: ∀(n:Nat) (x:WV) (m:Int),Er (tr n x m).2
 |0,_,_=>er 0
 |n+1,x,m=>by
  rw[tr];split
  ·
   exact er 0
  split
  ·
   exact er 0
  split
  ·
   exact O2 n _ m
  split
  ·
   exact YN _
  split
  ·
   exact er 0
  exact er 5
theorem HU(v:VV)(b:Bool): ∀(l:List (Int×List UInt8)) (c:CV) (a:List Int),Er (ma v b l c a).2.2
 |[],_,_=>er 0
 |x::r,c,a=>by
  rw[ma];split
  ·
   exact HU v b r _ _
  split
  ·
   exact YH _ _ _ _
  exact HU v b r _ _
theorem YO(x:WV)(l:List (Int×List UInt8)):Er (ja x l).2:=by
 rw[ja];split
 ·
  exact O2 _ _ _
 split
 ·
  exact HU _ _ _ _ _
 exact O0 _ _
theorem O3: ∀(n:Nat) (x:WV) (l:List (Int×List UInt8)),Er (pD n x l).2
 |0,_,_=>er 0
 |n+1,x,l=>by
  rw[pD];split
  ·
   exact O3 n _ l
  exact YO _ _
theorem YP(v:VV)(l:List (Int×List UInt8)):Er (gI v l).2:=by
 rw[gI];split
 ·
  exact er 1
 split
 ·
  exact er 7
 exact O3 _ _ _
theorem YQ(t:List Rt)(c:Ch):Er (ib t c):=by
 rw[ib];exact jw (jw (er 0) (jw (er 6) (jw (er 5) (er 0)))) (er 1)
theorem O4: ∀(l:List Ch) (t:List Rt),Er (pE t l).2
 |[],_=>er 0
 |c::r,t=>by
  rw[pE];split
  ·
   exact O4 r _
  exact YQ _ _
theorem YR(t:List Rt)(l:List Ch):Er (j9 t l):=by
 rw[j9];exact jw (O4 l t) (er 1)
theorem YS(t:List Rt)(a b:Int):Er (jt t a b):=by
 rw[jt];exact jw (er 1) (jw (er 5) (er 0))
theorem YT(f:FV)(l:List Ch):Er (gJ f l).2:=by
 rw[gJ];split
 ·
  exact er 1
 split
 ·
  exact YR _ _
 split
 ·
  exact YS _ _ _
 split
 ·
  exact er 0
 exact YP _ _
theorem YU(l:List (List UInt8)):Er (fB l).2.2:=by
 rw[fB];split
 ·
  exact er 0
 split
 ·
  exact er 6
 exact er 2
theorem YV(c:CV):Er (bL c).2:=by
 rw[bL];split
 ·
  exact er 1
 split
 ·
  exact er 7
 split
 ·
  exact YU _
 split
 ·
  exact er 2
 exact er 0
theorem HV(c:CV):Er (c6 c).2:=by
 rw[c6];split
 ·
  exact er 1
 split
 ·
  exact YV _
 split
 ·
  exact er 2
 split
 ·
  exact er 2
 exact er 0
theorem YW(t:List Rt)(k:Key)(b:Int):Er (uS t k b):=by
 rw[uS];exact jw (jw (er 0) (er 6)) (er 1)
theorem YX(f:FV)(k:Key)(b:Int):Er (qz f k b):=by
 rw[qz];exact jw (YW _ _ _) (er 1)
theorem HW(c:CV)(l:List Ft):Er (lX c l):=jw (er 0) (er 1)
theorem HX(b:Bool):Er (if b=true then 0 else 1):=jw (er 0) (er 1)
end Go.Kb
namespace Go.Proofs.YtkggjjnhnjjokaaGreatDoor
open Go.ay Go.Kb Go.RowKit
theorem YY(w0 w:World)(L:List ah)(k:Nat)(xf:bM)(xb:Sl Ch)(xa:Option Nat)(xt:Sl UInt8)(line:List UInt8)(hw:Mem w0 (al k (bR (⟨xf,xb,xa,xt⟩:bP)) 174::c8 5 xt.sv xt.xs::L) w)(aw:xt.xs.length+line.length+1<=1000000000/\(xa=none\/xa=Option.some k)):Calls Tryz.prog 214 #[.pointer (some ⟨k,0,none⟩), .string ⟨line.toArray⟩] w fun e w'=> ∃U:Sv,e= .returned (.tuple #[])/\(True)/\Mem w0 (al k (bR (⟨xf,xb,(Option.some k),⟨U,xt.xs++line++[10]⟩⟩:bP)) 174::c8 5 U (xt.xs++line++[10])::L) w':=by
 obtain⟨wJ,eQ⟩:=aw;refine fI (args:=[_,_]) Tryz.func214 rfl Tryz.ntmps214 rfl hw ?_;change Cw _ _ _ _ _ [(0, .pointer (some ⟨k,0,none⟩)),(1, .string ⟨line.toArray⟩)] (al k (bR (⟨xf,xb,xa,xt⟩:bP)) 174::c8 5 xt.sv xt.xs::L);refine aG ?_;refine aW rfl ⟨by omega,eQ⟩ fun x8 nr=>an ?_;refine aW (vs:=[_, .int .u8 ((10:UInt8).toNat:Int)]) rfl ⟨by simp only[adr];omega, .inr rfl⟩ fun nV qG=>Gi ?_;refine cY (.inr rfl) (iJ rfl) (fun w1 hw=>?_);exact⟨nV,rfl,trivial,ag.mem hw⟩
instance aiC{w0:World}{L R1 L2:List ah}{i0 i1:Nat}{k:Nat}{xf:bM}{xb:Sl Ch}{xa:Option Nat}{xt:Sl UInt8}{line:List UInt8}[q0:Has L k (bR (⟨xf,xb,xa,xt⟩:bP)) 174 i0][d0:bW L i0 R1][q1:kr R1 xt.sv 5 xt.xs i1][d1:bW R1 i1 L2]:bK Tryz.prog 214 w0 L [.pointer (some ⟨k,0,none⟩), .string ⟨line.toArray⟩] (Sv) (fun U=> .tuple #[]) (fun U=>al k (bR (⟨xf,xb,(Option.some k),⟨U,xt.xs++line++[10]⟩⟩:bP)) 174::c8 5 U (xt.xs++line++[10])::L2) (fun U=>True) (xt.xs.length+line.length+1<=1000000000/\(xa=none\/xa=Option.some k)):=⟨fun hp w hw=>YY w0 w L2 k xf xb xa xt line (mM q0.h d0.h q1.h d1.h hw) hp⟩
theorem YZ(w0 w:World)[tb:gS w0](L:List ah)(k:Nat)(xf:bM)(xb:Sl Ch)(xa:Option Nat)(xt:Sl UInt8)(line:List UInt8)(er:Int)(hw:Mem w0 (al k (bR (⟨xf,xb,xa,xt⟩:bP)) 174::c8 5 xt.sv xt.xs::L) w)(aw:xt.xs.length+line.length<=900000000/\(xa=none\/xa=Option.some k)/\Er er):Calls Tryz.prog 157 #[.pointer (some ⟨k,0,none⟩), .string ⟨line.toArray⟩, .int .i64 er] w fun e w'=> ∃U:Sv,e= .returned (.tuple #[])/\(True)/\Mem w0 (al k (bR (⟨xf,xb,(Option.some k),⟨U,xt.xs++(kb line er)++[10]⟩⟩:bP)) 174::c8 5 U (xt.xs++(kb line er)++[10])::L) w':=by
 obtain⟨wJ,eQ,HO,he9⟩:=aw;have uY:=iV 1 er.toNat oM (by decide);refine fI (args:=[_,_,_]) Tryz.func157 rfl Tryz.ntmps157 rfl hw ?_;change Cw _ _ _ _ _ [(0, .pointer (some ⟨k,0,none⟩)),(1, .string ⟨line.toArray⟩),(2, .int .i64 er)] (al k (bR (⟨xf,xb,xa,xt⟩:bP)) 174::c8 5 xt.sv xt.xs::L);refine an ?_;refine Gb ?_ ?_<;>intro h0
 ·
  have hr:kb line er=[101,114,114,111,114,32]++dec er.toNat:=by rw[kb,if_pos h0];rfl
  rw[hr];refine Gi ?_;refine Gs ?_;refine ck (br rfl ⟨HO,by omega⟩) (ae (jC rfl rfl (by simp only[ad2,af0];omega)) (an ?_));refine aW rfl ⟨by first|omega|(simp only[adr,ad2,af0];omega),eQ⟩ fun uZ HY=>Gi ?_;refine cY (.inr rfl) (iJ rfl) (fun w1 hw=>?_);exact⟨uZ,rfl,trivial,ag.mem hw⟩
 have hr:kb line er=line:=by rw[kb,if_neg (fun g=>g h0)]
 rw[hr];refine aj ?_;refine aW rfl ⟨by first|omega|(simp only[adr,ad2,af0];omega),eQ⟩ fun uZ HY=>Gi ?_;refine cY (.inr rfl) (iJ rfl) (fun w1 hw=>?_);exact⟨uZ,rfl,trivial,ag.mem hw⟩
instance aiD{w0:World}[tb:gS w0]{L R1 L2:List ah}{i0 i1:Nat}{k:Nat}{xf:bM}{xb:Sl Ch}{xa:Option Nat}{xt:Sl UInt8}{line:List UInt8}{er:Int}[q0:Has L k (bR (⟨xf,xb,xa,xt⟩:bP)) 174 i0][d0:bW L i0 R1][q1:kr R1 xt.sv 5 xt.xs i1][d1:bW R1 i1 L2]:bK Tryz.prog 157 w0 L [.pointer (some ⟨k,0,none⟩), .string ⟨line.toArray⟩, .int .i64 er] (Sv) (fun U=> .tuple #[]) (fun U=>al k (bR (⟨xf,xb,(Option.some k),⟨U,xt.xs++(kb line er)++[10]⟩⟩:bP)) 174::c8 5 U (xt.xs++(kb line er)++[10])::L2) (fun U=>True) (xt.xs.length+line.length<=900000000/\(xa=none\/xa=Option.some k)/\Er er):=⟨fun hp w hw=>YZ w0 w L2 k xf xb xa xt line er (mM q0.h d0.h q1.h d1.h hw) hp⟩
end Go.Proofs.YtkggjjnhnjjokaaGreatDoor
namespace Go.Kb
open Go.ay
def aZ(x:aO):Array Value:= #[.int .i64 x.kind]++av x.r++bw x.key++ #[.int .i64 x.bits, .int .i64 x.n.toInt]
theorem iK(x:aO):(aZ x).size=38:=by
 unfold aZ;rw[amT,amT,amT,fw,du];rfl
theorem yG(x:aO):(aZ x)[0]? =some (.int .i64 x.kind):=by
 unfold aZ;rw[amW (by rw[amT,amT,fw,du];exact(by decide:0<1+19+16)),amW (by rw[amT,fw];exact(by decide:0<1+19)),amW (show 0<1 from by decide)];rfl
theorem wN(x:aO)(j:Nat)(h:j<19):(aZ x)[1+j]? =(av x.r)[j]? :=by
 have h1:(#[Value.int .i64 x.kind]).size=1:=rfl;unfold aZ;rw[amW (by rw[amT,amT,fw,du,h1];omega),amW (by rw[amT,fw,h1];omega),an4 (by rw[h1];omega),h1,amV]
theorem yH(x:aO)(j:Nat)(h:j<16):(aZ x)[20+j]? =(bw x.key)[j]? :=by
 have h1:(#[Value.int .i64 x.kind]).size=1:=rfl;have h2:(#[Value.int .i64 x.kind]++av x.r).size=20:=by rw[amT,fw,h1]
 unfold aZ;rw[amW (by rw[amT,du,h2];omega),an4 (by rw[h2];omega),h2,amV]
theorem qH(x:aO)(j:Nat):(aZ x)[36+j]? =(#[Value.int .i64 x.bits, .int .i64 x.n.toInt])[j]? :=by
 have h2:(#[Value.int .i64 x.kind]++av x.r++bw x.key).size=36:=by rw[amT,amT,fw,du];rfl
 unfold aZ;rw[an4 (by rw[h2];omega),h2,amV]
theorem Y0{a b:aO}(h:aZ a=aZ b):a=b:=by
 have h0:=(yG a).symm.trans ((congrArg (fun z=>z[0]?) h).trans (yG b));have hr:av a.r=av b.r:=am7 fun j=>by
  rcases amv j 19 with hj|hj
  ·
   rw[←wN a j hj,←wN b j hj,h]
  rw[amE (by rw[fw];exact hj),amE (by rw[fw];exact hj)]
 have hk:bw a.key=bw b.key:=am7 fun j=>by
  rcases amv j 16 with hj|hj
  ·
   rw[←yH a j hj,←yH b j hj,h]
  rw[amE (by rw[du];exact hj),amE (by rw[du];exact hj)]
 have h6:=(qH a 0).symm.trans ((congrArg (fun z=>z[36+0]?) h).trans (qH b 0));have h7:=(qH a 1).symm.trans ((congrArg (fun z=>z[36+1]?) h).trans (qH b 1));have e0:a.kind=b.kind:=by simpa using h0
 have e6:a.bits=b.bits:=by simpa using h6
 have e7:a.n.toInt=b.n.toInt:=by simpa using h7
 have er:=Kw hr;have ek:=Fc hk;obtain⟨a1,a2,a3,a4,a5⟩:=a;obtain⟨b1,b2,b3,b4,b5⟩:=b;simp only at e0 e6 e7 er ek;subst e0 e6 er ek;rw[Int64.toInt_inj.1 e7]
instance:bn aZ 38:=⟨iK,fun x=>by
 have h:(av x.r).all (·.oneCell')=true:=bn.one x.r;have k:(bw x.key).all (·.oneCell')=true:=(inferInstance:eY (bw x.key) 16).one;rw[aZ,aoz,aoz,aoz,h,k];simp[Value.oneCell']⟩
instance:Deep aO:=Deep.flat aZ 38
instance:ff aO aZ 38:=⟨rfl,fun _=>rfl⟩
instance (x:aO):eY (aZ x) 38:=⟨iK x,bn.one x⟩
instance (x:aO):bH (aZ x) 0 (.int .i64 x.kind):=⟨yG x⟩
instance (x:aO):kJ (aZ x) 1 19 (av x.r):=⟨fw _,fun j hj=>wN x j hj⟩
instance (x:aO):kJ (aZ x) 1 18 (cl x.r.p):=⟨lQ _,fun j hj=>(wN x j (by omega)).trans (lu x.r j hj)⟩
instance (x:aO):kJ (aZ x) 20 16 (bw x.key):=⟨du _,fun j hj=>yH x j hj⟩
instance (x:aO):bH (aZ x) 36 (.int .i64 x.bits):=⟨qH x 0⟩
instance (x:aO):bH (aZ x) 37 (.int .i64 x.n.toInt):=⟨qH x 1⟩
theorem r8(x:aO)(k:Nat):(aZ x)[k]? =if k=0 then some (.int .i64 x.kind)else if k<20 then(av x.r)[k -1]?else if k<36 then(bw x.key)[k -20]?else(#[Value.int .i64 x.bits, .int .i64 x.n.toInt])[k -36]? :=by
 split
 ·
  rename_i h;subst h;exact yG x
 split
 ·
  obtain⟨j,rfl⟩: ∃j,k=1+j:=⟨k -1,by omega⟩;rw[wN x j (by omega),amV]
 split
 ·
  obtain⟨j,rfl⟩: ∃j,k=20+j:=⟨k -20,by omega⟩;rw[yH x j (by omega),amV]
 obtain⟨j,rfl⟩: ∃j,k=36+j:=⟨k -36,by omega⟩;rw[qH x j,amV]
theorem HZ(y:aO)(r:Rt):over (aZ y) 1 (av r)=aZ {y with r:=r}:=am7 fun k=>by
 rw[qX (by rw[fw,iK];decide),r8,r8,fw]
 by_cases h0:k=0
 ·
  rw[if_neg (by omega),if_pos h0,if_pos h0]
 by_cases h1:k<20
 ·
  rw[if_pos (by omega),if_neg h0,if_pos h1]
 rw[if_neg (by omega),if_neg h0,if_neg h0,if_neg h1,if_neg h1]
theorem H2(y:aO)(p:cz):over (aZ y) 1 (cl p)=aZ {y with r:=⟨p,y.r.eC⟩}:=am7 fun k=>by
 rw[qX (by rw[lQ,iK];decide),r8,r8,lQ]
 by_cases h0:k=0
 ·
  rw[if_neg (by omega),if_pos h0,if_pos h0]
 by_cases h1:k<20
 ·
  rw[if_neg h0,if_neg h0,if_pos h1,if_pos h1]
  by_cases h2:k<19
  ·
   rw[if_pos (by omega),lu _ _ (by omega)]
  rw[if_neg (by omega),show k -1=18 by omega,rf,rf]
 rw[if_neg (by omega),if_neg h0,if_neg h0,if_neg h1,if_neg h1]
theorem H3(y:aO)(q:Key):over (aZ y) 20 (bw q)=aZ {y with key:=q}:=am7 fun k=>by
 rw[qX (by rw[du,iK];decide),r8,r8,du]
 by_cases h0:k=0
 ·
  rw[if_neg (by omega),if_pos h0,if_pos h0]
 by_cases h1:k<20
 ·
  rw[if_neg (by omega),if_neg h0,if_pos h1,if_neg h0,if_pos h1]
 by_cases h2:k<36
 ·
  rw[if_pos (by omega),if_neg h0,if_neg h1,if_pos h2]
 rw[if_neg (by omega),if_neg h0,if_neg h0,if_neg h1,if_neg h1,if_neg h2,if_neg h2]
theorem H4(y:aO)(b:Int):(aZ y).setIfInBounds 36 (.int .i64 b)=aZ {y with bits:=b}:=am7 fun k=>by
 rw[amQ,r8,r8,iK]
 by_cases h:36=k
 ·
  subst h;rw[if_pos rfl,if_pos (by decide),if_neg (by decide),if_neg (by decide),if_neg (by decide)];rfl
 rw[if_neg h]
 by_cases h2:k<36
 ·
  simp only[h2,if_true]
 rw[if_neg (by omega),if_neg (by omega),if_neg h2,if_neg (by omega),if_neg (by omega),if_neg h2]
 by_cases h3:k=37
 ·
  subst h3;have a1: ∀u v:Value,(#[u,v])[37 -36]? =some v:=fun _ _=>rfl;rw[a1,a1]
 rw[amE (by show 2<=k -36;omega),amE (by show 2<=k -36;omega)]
theorem H5(y:aO)(n:Int64):(aZ y).setIfInBounds 37 (.int .i64 n.toInt)=aZ {y with n:=n}:=am7 fun k=>by
 rw[amQ,r8,r8,iK]
 by_cases h:37=k
 ·
  subst h;rw[if_pos rfl,if_pos (by decide),if_neg (by decide),if_neg (by decide),if_neg (by decide)];rfl
 rw[if_neg h]
 by_cases h2:k<36
 ·
  simp only[h2,if_true]
 rw[if_neg (by omega),if_neg (by omega),if_neg h2,if_neg (by omega),if_neg (by omega),if_neg h2]
 by_cases h3:k=36
 ·
  subst h3;have a1: ∀u v:Value,(#[u,v])[36 -36]? =some u:=fun _ _=>rfl;rw[a1,a1]
 rw[amE (by show 2<=k -36;omega),amE (by show 2<=k -36;omega)]
theorem Y1(s:aB):(bj s 999).getD 0<=999:=Ai s 999
theorem Y2(y:aO){n:Nat}(h:n<=999):(aZ y).setIfInBounds 37 (.int .i64 (n:Nat))=aZ {y with n:=Int64.ofInt (n:Int)}:=by
 have:=H5 y (Int64.ofInt (n:Int));rwa [Gd h]at this
def yI(ps:List aB)(i:Nat):Array Value:= #[.int .i64 ((if 0<i then gE ps 0 else 0:Nat):Int), .int .i64 ((if 1<i then gE ps 1 else 0:Nat):Int), .int .i64 ((if 2<i then gE ps 2 else 0:Nat):Int)]
theorem Y3(ps:List aB){i:Nat}(hi:i<3):(yI ps i).setIfInBounds i (.int .i64 ((gE ps i:Nat):Int))=yI ps (i+1):=by
 match i,hi with
 |0,_=>rfl
 |1,_=>rfl
 |2,_=>rfl
end Go.Kb
namespace Go.Proofs.YtkggjjnhnjjokaaGreatDoor
open Go.ay Go.Kb Go.RowKit
theorem Y4(a b:Rt)(j:Nat)(hj:j<19): ∃u v,(av a)[j]? =some u/\(av b)[j]? =some v/\rT 0 u v:=by
 match j,hj with
 |0,_=>exact⟨_,_,(inferInstance:bH (av a) 0 _).h,(inferInstance:bH (av b) 0 _).h,rfl⟩
 |1,_=>exact⟨_,_,(inferInstance:bH (av a) 1 _).h,(inferInstance:bH (av b) 1 _).h,rfl⟩
 |j+2,hi=>
  rcases amv j 16 with h|h
  ·
   rw[aoy j 2];exact⟨_,_,(lu a _ oM).trans ((om a.p j).trans (fK _ j h)),(lu b _ oM).trans ((om b.p j).trans (fK _ j h)),rfl⟩
  obtain rfl:j=16:=by omega
  exact⟨_,_,rf a,rf b,rfl⟩
theorem Y5:Tryz.prog.stoodInHeld 73=false:=by kernel_rfl
theorem Y6(d:Nat):qv Tryz.prog (d+1+1+1+1+1) 73 true ([0]++((([0]++([0]++((List.replicate 16 [0]).flatten++[])))++([0]++[]))++((List.replicate 16 [0]).flatten++([0]++([0]++[]))))):=⟨⟨_,Tryz.underlying73,rfl⟩,by kernel_rfl,(fun h=>by cases h),
 HG Tryz.underlying73 Y5 ⟨by decide,rfl,_,_,_,rfl,AJ _,by decide,rfl,_,_,_,rfl,Oz _,by decide,rfl,_,_,_,rfl,HH _,by decide,rfl,_,_,_,rfl,AJ _,by decide,rfl,_,_,_,rfl,AJ _,rfl⟩⟩
theorem Y7:Tryz.prog.eqGuardType Tryz.prog.depth 73=false:=by kernel_rfl
instance (a b:aO):vo Tryz.prog 73 (.agg (aZ a)) (.agg (aZ b)) (decide (a=b)):=
 (Y6 9995).eq.val rfl Y7 (iK a) (iK b) (fun i k hk=>by
  have h0:k=0:=by
   have:k∈([0]++((([0]++([0]++((List.replicate 16 [0]).flatten++[])))++([0]++[]))++((List.replicate 16 [0]).flatten++([0]++([0]++[]))))):=amm hk;simpa using this
  subst h0;have hi:i<38:=(zz.1 hk).1;rcases anW i with h0|h0
  ·
   subst h0;exact⟨_,_,yG a,yG b,rfl⟩
  rcases amv i 20 with h1|h1
  ·
   obtain⟨j,rfl⟩: ∃j,i=1+j:=⟨i -1,by omega⟩;obtain⟨u,v,hu,hv,hk⟩:=Y4 a.r b.r j oM;exact⟨u,v,(wN a j oM).trans hu,(wN b j oM).trans hv,hk⟩
  rcases amv i 36 with h2|h2
  ·
   obtain⟨j,rfl⟩: ∃j,i=20+j:=⟨i -20,by omega⟩;exact⟨_,_,(yH a j oM).trans (fK _ j oM),(yH b j oM).trans (fK _ j oM),rfl⟩
  rcases amv i 37 with h3|h3
  ·
   obtain rfl:i=36+0:=by omega
   exact⟨_,_,qH a 0,qH b 0,rfl⟩
  obtain rfl:i=36+1:=by omega
  exact⟨_,_,qH a 1,qH b 1,rfl⟩) (by rw[decide_eq_true_iff];exact⟨Y0,fun h=>by rw[h]⟩)
theorem Y8(x:aO):aZ x= #[.int .i64 x.kind]++av x.r++bw x.key++ #[.int .i64 x.bits, .int .i64 x.n.toInt]:=rfl
instance:pX Tryz.prog 73 [] (.agg (aZ gC)):=⟨fun w=>by unfold aZ av cl gC bp;rw[qw];kernel_rfl⟩
instance:dH Tryz.prog 73 (.agg (aZ gC)):=⟨by unfold aZ av cl gC bp;rw[qw];kernel_rfl⟩
instance (k:Int):pX Tryz.prog 73 [(0, .int .i64 k)] (.agg (aZ ⟨k,bp,0#128,0,0⟩)):=⟨fun w=>by unfold aZ av cl bp;rw[qw];kernel_rfl⟩
variable {w0:World}{L:List ah}
instance aiE{c:UInt8}:bD Tryz.prog 211 w0 L [.int .u8 (c.toNat:Nat)] (.int .i64 (qe c)) (True):=⟨fun aw w hw=>by
 refine bQ Tryz.func211 rfl Tryz.ntmps211 rfl ?_;refine nO ?_;refine Gb ?_ ?_<;>intro h0
 ·
  refine ao ?_;refine ae (zT (p:=c.toNat) (q:=48) rfl rfl rfl rfl oM) (ae (iS rfl (by simp only[nb];omega)) (ao ?_));refine Gr fun w1 hw=>?_;exact Gf ((by simp only[qe,iE];rw[if_pos oM])) hw
 refine dV ?_;refine Gb ?_ ?_<;>intro h1
 ·
  refine ao ?_;refine ae (zT (p:=c.toNat) (q:=97) rfl rfl rfl rfl oM) (ae (iS rfl (by simp only[nb];omega)) (aj ?_));refine Gr fun w1 hw=>?_;exact Gf ((by simp only[qe,iE];rw[if_neg oM,if_pos oM];simp only[];omega)) hw
 refine aj ?_;refine Gr fun w1 hw=>?_;exact⟨congrArg (fun b=>Ending.returned (Value.int .i64 b)) ((by simp only[qe,iE];rw[if_neg oM,if_neg oM])),ag.mem hw⟩⟩
theorem O5(n:Nat):n<4611686018427387904-> ∀w:World,Calls Tryz.prog 35 #[.int .i64 (n:Nat)] w fun e w'=>e= .returned (.string ⟨(dec n).toArray⟩)/\Mem w [] w':=by
 induction n using Nat.strongRecOn with
 |_ n ih=>
 intro hn w;have hl:=iV 20 n oM (by decide);refine bQ Tryz.func35 rfl Tryz.ntmps35 rfl ?_;refine aQ ?_;refine Gb ?_ ?_<;>intro h0
 ·
  refine aj ?_;refine ae (iS rfl (by simp only[nb];omega)) (ae (E9 (n:=(48+n)) (by rw[Tryz.underlying21];rfl) Tryz.underlying9 rfl oM) (ao ?_));refine Gr fun w1 hw=>?_;exact⟨(by rw[oh oM]),ag.mem hw⟩
 refine ao ?_;refine ae (kL rfl rfl oM oM) (ck (zq (v:= .string ⟨(dec (n/10)).toArray⟩) rfl (fun w1 nA=>ih (n/10) oM oM w1)) (Gs ?_));refine ae (EV (p:=n) (q:=10) rfl rfl rfl rfl oM) (Gs ?_);refine ae (iS rfl (by simp only[nb];omega)) (ae (E9 (n:=(48+(n%10))) (by rw[Tryz.underlying21];rfl) Tryz.underlying9 rfl oM) (ae (jC rfl rfl (by have:=iV 20 (n/10) oM (by decide);simp only[ad2,af0];omega)) (ao ?_)));refine Gr fun w1 hw=>?_;exact⟨(by rw[q9 (n:=n) oM]),ag.mem hw⟩
instance aiF{n:Nat}:bD Tryz.prog 35 w0 L [.int .i64 (n:Nat)] (.string ⟨(dec n).toArray⟩) (n<4611686018427387904):=⟨fun h w _=>O5 n h w⟩
instance (priority:=low) aiG{z:Int}:bD Tryz.prog 35 w0 L [.int .i64 z] (.string ⟨(dec z.toNat).toArray⟩) (0<=z/\z<4611686018427387904):=⟨fun h w _=>by
 have:=O5 z.toNat oM w;rwa [an8 h.1]at this⟩
instance aiH{s:List UInt8}{top:Nat}:bD Tryz.prog 210 w0 L [.string ⟨s.toArray⟩, .int .i64 (top:Nat)] (.int .i64 (fg s top)) (top<=65535):=⟨fun aw w hw=>by
 refine cD Tryz.func210 rfl Tryz.ntmps210 rfl ?_;refine an ?_;refine ae (hH (s:=s) Tryz.underlying9 rfl) (aj ?_);refine aV rfl rfl rfl (fun hg=>(Ry.yl (hH (s:=s) Tryz.underlying9 (au hg rfl)))) (an ?_);refine aV rfl rfl rfl (fun hg=>(Ry.yl (hH (s:=s) Tryz.underlying9 (au hg rfl)))) (Gg ?_);refine aV rfl rfl rfl (fun hg=>(Ry.yl (ba (au hg rfl)))) (iB rfl rfl rfl (fun hg=>(Ry.yl (ba rfl))) (iB rfl rfl rfl (fun hg=>(Ry.yl (lr (s:=s) 0 Tryz.underlying9 (au hg rfl) rfl rfl (by simp only[Z0,Z1,Z2,Z3,Z4,Z5,Z6,Z7,Z8,Z9]at hg;omega)))) (iB rfl rfl rfl (fun hg=>(Ry.yl (da (au hg rfl) rfl rfl))) (aV rfl rfl rfl (fun hg=>(Ry.yl (sD (au hg rfl) (qV hg rfl) rfl))) (ao ?_)))));refine Gb ?_ ?_<;>intro h0
 ·
  refine aj ?_;refine Gr fun w1 hw=>?_;exact Gf ((by rw[fg,Fk aw oM])) hw
 have hx:s.length<=5/\0<s.length:=by omega
 refine aG ?_;refine bI (X:=Nat) (fun U=>[(6, .int .i64 (U:Nat)),(5, .int .i64 ((val (s.take U)):Nat)),(0, .string ⟨s.toArray⟩),(1, .int .i64 (top:Nat))]) (fun U=>[]) (fun U=>U<=s.length/\(s.take U).all jg=true) (fun U=>s.length -U) 0 ⟨Nat.zero_le _,rfl⟩ (Sub.cons rfl (Sub.cons (look_eq rfl rfl) sb)) (fun w hw=>ag.mem hw) ?_;rintro i ⟨hi,hd⟩;have hv:=KF (s:=s) (i:=i) oM hi hd;refine aj ?_;refine ae (hH (s:=s) Tryz.underlying9 rfl) (ao ?_);refine Gb ?_ ?_<;>intro h1
 ·
  refine aj ?_;refine ae (lr (s:=s) i Tryz.underlying9 rfl rfl rfl oM) (an ?_);refine aV rfl rfl rfl (fun hg=>(Ry.yl (lr (s:=s) i Tryz.underlying9 (au hg rfl) (au hg rfl) rfl (by simp only[Z0,Z1,Z2,Z3,Z4,Z5,Z6,Z7,Z8,Z9]at hg;omega)))) (aj ?_);refine Gb ?_ ?_<;>intro h2
  ·
   refine aj ?_;refine Gr fun w1 hw=>?_;exact Gf ((by rw[fg,Fl (i:=i) oM oM])) hw
  refine ao ?_;refine ae (jX rfl rfl oM) (ao ?_);refine ae (lr (s:=s) i Tryz.underlying9 rfl rfl rfl oM) (ae (zT (p:=(s.getD i 0).toNat) (q:=48) rfl rfl rfl rfl oM) (ae (iS rfl (by simp only[nb];omega)) (aQ ?_)));refine Gi ?_;exact bg (x:=(i)) (i+1) ⟨oF,Fi oF hd oF⟩ oF (Sub.cons rfl (Sub.cons (look_eq rfl (by rw[zY oM,anv 10];rfl)) sb)) (fun w hw=>ag.mem hw)
 refine aG ?_;refine Gb ?_ ?_<;>intro h3
 ·
  refine aj ?_;refine Gr fun w1 hw=>?_;exact Gf ((by rw[fg,KG (i:=i) oM])) hw
 refine an ?_;refine Gr fun w1 hw=>?_;exact⟨congrArg (fun b=>Ending.returned (Value.int .i64 b)) ((by have e:s.take i=s:=amr oM;rw[e]at hd;rw[fg,Fm (anf.1 hx.2) oM hd (by rw[←e];omega),e])),ag.mem hw⟩⟩
instance aiI{s:List UInt8}{top:Nat}:bD Tryz.prog 117 w0 L [.string ⟨s.toArray⟩, .int .i64 (top:Nat)] (.tuple #[.int .i64 (((bj s top).getD 0):Nat), .bool ((bj s top).isSome)]) (top<=65535/\s.length<=1000000000):=⟨fun aw w hw=>by
 refine cD Tryz.func117 rfl Tryz.ntmps117 rfl ?_;refine aG ?_;refine ae (nC rfl rfl) (ao ?_);refine aV rfl rfl rfl (fun hg=>(Ry.yl (hH (s:=s) Tryz.underlying9 (au hg rfl)))) (Gg ?_);refine aV rfl rfl rfl (fun hg=>(Ry.yl (ba (au hg rfl)))) (iB rfl rfl rfl (fun hg=>(Ry.yl (ba rfl))) (iB rfl rfl rfl (fun hg=>(Ry.yl (lr (s:=s) 0 Tryz.underlying9 (au hg rfl) rfl rfl (by simp only[Z0,Z1,Z2,Z3,Z4,Z5,Z6,Z7,Z8,Z9]at hg;omega)))) (iB rfl rfl rfl (fun hg=>(Ry.yl (da (au hg rfl) rfl rfl))) (aV rfl rfl rfl (fun hg=>(Ry.yl (sD (au hg rfl) (qV hg rfl) rfl))) (ao ?_)))));refine Gb ?_ ?_<;>intro h0
 ·
  refine an ?_;refine Gr fun w1 hw=>?_;exact⟨(by rw[SQ (h0.imp id fun h=>⟨by omega,by omega⟩)];rfl),ag.mem hw⟩
 refine an ?_;refine ae (hH (s:=s) Tryz.underlying9 rfl) (ao ?_);refine bI (X:=Nat) (fun U=>[(22, .int .i64 (U:Nat)),(6, .int .i64 ((val (s.take U)):Nat)),(0, .string ⟨s.toArray⟩),(1, .int .i64 (top:Nat)),(21, .int .i64 (s.length:Nat))]) (fun U=>[]) (fun U=>U<=s.length/\(s.take U).all jg=true/\val (s.take U)<=top) (fun U=>s.length -U) 0 ⟨Nat.zero_le _,rfl,amK _⟩ (Sub.cons rfl (Sub.cons (look_eq rfl rfl) sb)) (fun w hw=>ag.mem hw) ?_;rintro i ⟨hi,hd,hv⟩;refine aj ?_;refine Gb ?_ ?_<;>intro h1
 ·
  refine aQ ?_;refine ae (lr (s:=s) i Tryz.underlying9 rfl rfl rfl oM) (an ?_);refine aV rfl rfl rfl (fun hg=>(Ry.yl (lr (s:=s) i Tryz.underlying9 (au hg rfl) (au hg rfl) rfl (by simp only[Z0,Z1,Z2,Z3,Z4,Z5,Z6,Z7,Z8,Z9]at hg;omega)))) (aj ?_);refine Gb ?_ ?_<;>intro h2
  ·
   refine an ?_;refine Gr fun w1 hw=>?_;exact⟨(by rw[Fl (i:=i) oM oM];rfl),ag.mem hw⟩
  refine ao ?_;refine ae (jX rfl rfl oM) (ao ?_);refine ae (lr (s:=s) i Tryz.underlying9 rfl rfl rfl oM) (ae (zT (p:=(s.getD i 0).toNat) (q:=48) rfl rfl rfl rfl oM) (ae (iS rfl (by simp only[nb];omega)) (ct ?_)));refine Gb ?_ ?_<;>intro h3
  ·
   refine an ?_;refine Gr fun w1 hw=>?_;exact⟨(by rw[KG (i:=i+1) (by rw[zY oM];omega)];rfl),ag.mem hw⟩
  refine aj ?_;refine Gi ?_;exact bg (x:=(i)) (i+1) ⟨oF,Fi oF hd oF,by rw[zY oF];omega⟩ oF (Sub.cons rfl (Sub.cons (look_eq rfl (by rw[zY oM];rfl)) sb)) (fun w hw=>ag.mem hw)
 refine aG ?_;refine Gr fun w1 hw=>?_;exact⟨(by have e:s.take i=s:=amr oM;rw[e]at hd hv;rw[Fm h0.1 (by have:=h0.2;omega) hd hv,e];rfl),ag.mem hw⟩⟩
instance aiJ{s:List UInt8}{c:UInt8}:bK Tryz.prog 81 w0 L [.string ⟨s.toArray⟩, .int .u8 (c.toNat:Nat)] (Sv) (fun U=>U.val) (fun U=>own gu 1 U (aE c s)::L) (fun U=>True) (s.length<=1000000000):=⟨fun aw w hw=>Gk (fun U=>[own gu 1 U (aE c s)]) hw (by
 refine cD Tryz.func81 rfl Tryz.ntmps81 rfl ?_;refine aQ ?_;refine vY ?_;refine Gi ?_;refine ao ?_;refine bI (X:=Nat×Nat×Sv×List aB) (fun U=>[(7, .int .i64 (U.1:Nat)),(6, .int .i64 (U.2.1:Nat)),(5,U.2.2.1.val),(0, .string ⟨s.toArray⟩),(1, .int .u8 (c.toNat:Nat))]) (fun U=>[own gu 1 U.2.2.1 U.2.2.2]) (fun U=>po c s U.1 U.2.1 U.2.2.2/\U.1<=s.length+1/\U.2.2.2.length<=U.1) (fun U=>s.length+1 -U.1) (0,0,Sv.none,[]) ⟨SV c s,Nat.zero_le _,Nat.le_refl _⟩ sb (fun w hw=>Mem.cJ gu 1 (ag.mem hw)) ?_;rintro⟨i,b,o,q⟩ ⟨hc,hi,hl⟩;dsimp only;simp only at hc hi hl;refine aj ?_;refine ae (hH (s:=s) Tryz.underlying9 rfl) (ao ?_);refine Gb ?_ ?_<;>intro h0
 ·
  refine aj ?_;refine ae (hH (s:=s) Tryz.underlying9 rfl) (an ?_);refine aV rfl rfl rfl (fun hg=>(Ry.yl (lr (s:=s) i Tryz.underlying9 (au hg rfl) (au hg rfl) rfl (by simp only[Z0,Z1,Z2,Z3,Z4,Z5,Z6,Z7,Z8,Z9]at hg;omega)))) (an ?_);refine Gb ?_ ?_<;>intro h1
  ·
   refine aG ?_;refine ae (Sd b i Tryz.underlying9 rfl rfl rfl rfl rfl (hc.le oM).1 (hc.le oM).2) ?_;refine kO (enc:=gu) (vals:=[_]) [((s.drop b).take (i -b))] rfl rfl rfl (by decide) (by decide) fun eJ=>?_;refine jY (s:=o) (ys:=[((s.drop b).take (i -b))]) rfl rfl (by decide) (fun w hw=>gP (s:=⟨false,eJ,0,1,1,none⟩) Tryz.underlying155 (by decide) ((inferInstance:Hd _ _ ⟨false,eJ,0,1,1,none⟩ gu 1 [((s.drop b).take (i -b))]).h w hw)) (by simp only[adr,ad2,af0];omega) (by simp only[adr,ad2,af0];omega) fun Y9 aiK aiL=>?_;refine fS ?_;refine Gi ?_;exact bg (x:=(i,b,o,q)) (i+1,i+1,Y9,q++[(s.drop b).take (i -b)]) ⟨hc.hit oF oF,oF,by simp only[adr,ad2,af0];omega⟩ (by simp only;omega) sb (fun w hw=>ag.mem hw)
  refine an ?_;refine Gi ?_;exact bg (x:=(i,b,o,q)) (i+1,b,o,q) ⟨hc.SW oF oF,oF,by simp only;omega⟩ (by simp only;omega) sb (fun w hw=>ag.mem hw)
 refine an ?_;refine Gr fun w1 hw=>?_;exact⟨o,rfl,trivial,by rw[←hc.done oM];exact ag.mem hw⟩)⟩
instance aiM{k:Key}{n:Int}:bD Tryz.prog 153 w0 L [.agg (bw k), .int .i64 n] (.bool (iF k n)) (True):=⟨fun aw w hw=>by
 refine cD Tryz.func153 rfl Tryz.ntmps153 rfl ?_;refine Gc ?_;refine bJ rfl fun b2=>fS ?_;refine Gb ?_ ?_<;>intro h0
 ·
  refine aj ?_;refine Gr fun w1 hw=>?_;exact Ge ((by rw[S1 oM])) hw
 refine Gc ?_;refine gO oK oK (ao ?_);refine kM (br rfl trivial) (Gq ?_);refine bm (Ez rfl rfl) (ao ?_);refine Gr fun w1 hw=>?_;exact⟨congrArg (fun b=>Ending.returned (Value.bool b)) ((by rw[S2 oM])),ag.mem hw⟩⟩
instance aiN{sep:List UInt8}{z:Sv}{zs:List aB}[hz:cS w0 L gu 1 z zs]:bD Tryz.prog 104 w0 L [.string ⟨sep.toArray⟩,z.val] (.string ⟨(rj sep zs).toArray⟩) (zs≠[]/\(rj sep zs).length<=140737488355328):=⟨fun aw w hw=>by
 have hz:=hz.h w hw;have ghz:Gv w z gu 1 zs:=⟨hz⟩;refine cD Tryz.func104 rfl Tryz.ntmps104 rfl ?_;refine aG ?_;refine ck (br rfl aw) (ao ?_);refine Gr fun w1 hw=>?_;exact⟨rfl,ag.mem hw⟩⟩
instance aiO{k:Key}{n:Int}:bD Tryz.prog 90 w0 L [.agg (bw k), .int .i64 n] (.tuple #[.string ⟨(ik k n).toArray⟩, .int .i64 (eo (iF k n))]) (True):=⟨fun aw w hw=>by
 have q0:=fJ k 0;have q1:=fJ k 1;have q2:=fJ k 2;have q3:=fJ k 3;have l0:=iV 3 (aX k 0) oM (by decide);have l1:=iV 3 (aX k 1) oM (by decide);have l2:=iV 3 (aX k 2) oM (by decide);have l3:=iV 3 (aX k 3) oM (by decide);refine cD Tryz.func90 rfl Tryz.ntmps90 rfl ?_;refine Gc ?_;refine bJ rfl fun b2=>aQ ?_;refine ae (cX rfl) (aj ?_);refine Gb ?_ ?_<;>intro h0
 ·
  change iF k n=false at h0;refine an ?_;refine Gr fun w1 hw=>?_;exact⟨(by rw[ik,h0];rfl),ag.mem hw⟩
 change iF k n=true at h0;refine an ?_;refine Gb ?_ ?_<;>intro h1
 ·
  refine Gi ?_;refine gO oK oK (bm (iR rfl rfl oM oM) (bm (pV rfl (fK k 0 oM)) (bm (iS rfl (by simp only[nb];omega)) (kM (br rfl (by first|omega|exact ano (aod _) (by decide)|exact ano (anN _) (by decide))) (bm (jC rfl rfl (by simp only[adr,ad2,af0];omega)) (bm (iR rfl rfl oM oM) (bm (pV rfl (fK k 1 oM)) (bm (iS rfl (by simp only[nb];omega)) (kM (br rfl (by first|omega|exact ano (aod _) (by decide)|exact ano (anN _) (by decide))) (bm (jC rfl rfl (by simp only[adr,ad2,af0];omega)) (bm (jC rfl rfl (by simp only[adr,ad2,af0];omega)) (bm (iR rfl rfl oM oM) ?_))))))))))));refine bm (pV rfl (fK k 2 oM)) (bm (iS rfl (by simp only[nb];omega)) (kM (br rfl (by first|omega|exact ano (aod _) (by decide)|exact ano (anN _) (by decide))) (bm (jC rfl rfl (by simp only[adr,ad2,af0];omega)) (bm (jC rfl rfl (by simp only[adr,ad2,af0];omega)) (bm (iR rfl rfl oM oM) (bm (pV rfl (fK k 3 oM)) (bm (iS rfl (by simp only[nb];omega)) (kM (br rfl (by first|omega|exact ano (aod _) (by decide)|exact ano (anN _) (by decide))) (bm (jC rfl rfl (by simp only[adr,ad2,af0];omega)) (aj ?_))))))))));refine Gr fun w1 hw=>?_;exact⟨(by rw[ik,h0,if_pos rfl,nE,if_pos h1,pn];simp[eo]),ag.mem hw⟩
 refine aG ?_;refine bI (X:=Nat) (fun U=>[(7, .int .i64 (U:Nat)),(6, .string ⟨((lv k).take U).toArray⟩),(2, .pointer (some ⟨b2,0,none⟩))]) (fun U=>[al b2 (bw k) 25]) (fun U=>U<=32) (fun U=>32 -U) 0 (amK _) (Sub.cons rfl (Sub.cons (look_eq rfl rfl) sb)) (fun w hw=>ag.mem hw) ?_;rintro i hI;refine an ?_;refine Gb ?_ ?_<;>intro h2
 ·
  refine aG ?_;refine ae (BP (s:=⟨([48,49,50,51,52,53,54,55,56,57,97,98,99,100,101,102]:aB).toArray⟩) (v:=(gv (eF k i)).toNat) Tryz.underlying9 rfl rfl (by rw[KK k oM];omega) (by rw[KK k oM,am1];exact SZ k oM)) (ae (sK rfl) (ae (E9 (n:=(gv (eF k i)).toNat) (by rw[Tryz.underlying21];rfl) Tryz.underlying9 rfl (S0 (vM k i))) (ae (jC rfl rfl (by simp only[amo,vP,ad2,af0];omega)) (aG ?_))));refine Gi ?_;exact bg (x:=(i)) (i+1) oF oF (Sub.cons rfl (Sub.cons (look_eq rfl (by rw[Fp k oM];simp)) sb)) (fun w hw=>ag.mem hw)
 refine aG ?_;refine Gr fun w1 hw=>?_;exact⟨(by rw[ik,h0,if_pos rfl,nE,if_neg h1,show i=32 by omega,amr (by rw[vP];omega)];rfl),ag.mem hw⟩⟩
instance:dH Tryz.prog 5 (.int .u8 0):=⟨by kernel_rfl⟩
instance aiP{k:Key}{n:Int}[tb:Tabs w0]:bD Tryz.prog 85 w0 L [.agg (bw k), .int .i64 n] (.tuple #[.string ⟨(ik k n).toArray⟩, .int .i64 (eo (iF k n))]) (True):=⟨fun aw w hw=>by
 have tb:=tb.at hw;have h4:=Ck k;refine cD Tryz.func85 rfl Tryz.ntmps85 rfl ?_;refine Gc ?_;refine bJ rfl fun b2=>dV ?_;refine Gb ?_ ?_<;>intro h0
 ·
  refine an ?_;refine Gr fun w1 hw=>?_;exact⟨(by rw[ik,h0];rfl),ag.mem hw⟩
 refine an ?_;refine Gb ?_ ?_<;>intro h1
 ·
  refine aj ?_;refine ae (Ry.as (v':=Sv.val ⟨false,b2,0,4,16,none⟩) (EA rfl rfl (by decide) (by decide)) rfl) (aj ?_);refine bI (X:=Nat×Sv×List aB) (fun U=>[(20, .int .i64 (U.1:Nat)),(6,U.2.1.val),(18,(⟨false,b2,0,4,16,none⟩:Sv).val),(19, .int .i64 (((lT k).take 4).length:Nat))]) (fun U=>[own gu 1 U.2.1 U.2.2,al b2 (bw k) 25]) (fun U=>U.1<=4/\U.2.2=((((lT k).take 4).take U.1).map fun b=>dec b.toNat)) (fun U=>4 -U.1) (0,Sv.none,[]) ⟨Nat.zero_le _,rfl⟩ sb (fun w hw=>Mem.cJ gu 1 (ag.mem hw)) ?_;rintro⟨i,o,q⟩ ⟨hi,hq⟩;dsimp only;simp only at hi hq;have vh:q.length<=4:=by rw[hq,List.length_map,List.length_take];omega
  refine aj ?_;refine Gb ?_ ?_<;>intro h2
  ·
   refine kp ?_;obtain⟨x,hx⟩:=get_some (xs:=((lT k).take 4)) (i:=i) oM;refine ae (aY rfl rfl i rfl oM) (ae (bB (j:=0) rfl i hx rfl (by decide)) (an ?_));refine ae (sK rfl) (ck (br rfl (by first|omega|exact ano (aod _) (by decide)|exact ano (anN _) (by decide))) ?_);refine kO (enc:=gu) (vals:=[_]) [(dec x.toNat)] rfl rfl rfl (by decide) (by decide) fun wO=>?_;refine jY (s:=o) (ys:=[(dec x.toNat)]) rfl rfl (by decide) (fun w hw=>gP (s:=⟨false,wO,0,1,1,none⟩) Tryz.underlying155 (by decide) ((inferInstance:Hd _ _ ⟨false,wO,0,1,1,none⟩ gu 1 [(dec x.toNat)]).h w hw)) (by simp only[adr,ad2,af0];omega) (by simp only[adr,ad2,af0];omega) fun Za aiQ aiR=>?_;refine an ?_;refine Gi ?_;exact bg (x:=(i,o,q)) (i+1,Za,q++[dec x.toNat]) ⟨oF,by simp only;rw[hq,S8 oF hx]⟩ (by simp only;omega) sb (fun w hw=>ag.mem hw)
  refine kp ?_;have O6:q=((lT k).take 4).map fun b=>dec b.toNat:=by rw[hq,amr oM]
  refine Gi ?_;refine Gs ?_;refine ck (br rfl (by rw[O6];exact S9 k)) (aj ?_);refine Gr fun w1 hw=>?_;exact⟨(by rw[ik,h0,if_pos rfl,nE,if_pos h1,O6,KJ];rfl),ag.mem hw⟩
 refine Gc ?_;refine sJ (enc:=aL) (n:=0) (cap:=32) 0 rfl rfl rfl rfl rfl oM oM oM fun iA=>aG ?_;refine bI (X:=Nat×Sv×List UInt8) (fun U=>[(35, .int .i64 (U.1:Nat)),(9,U.2.1.val),(34, .agg (bw k))]) (fun U=>[own aL 1 U.2.1 U.2.2,al b2 (bw k) 25]) (fun U=>U.1<=16/\U.2.2=(lv k).take (2*U.1)) (fun U=>16 -U.1) (0,⟨false,iA,0,0,32,none⟩,[]) ⟨Nat.zero_le _,rfl⟩ sb (fun w hw=>hw) ?_;rintro⟨i,o,q⟩ ⟨hi,hq⟩;dsimp only;simp only at hi hq;have vh:q.length<=32:=by rw[hq,List.length_take,vP];omega
 refine aj ?_;refine Gb ?_ ?_<;>intro h3
 ·
  refine Gc ?_;refine ae (SY Tryz.underlying25 rfl rfl i rfl oM) (Gs ?_);refine fb ?_;refine uc 8 [7] oK oK ?_;simp only[ane,amL];refine ao ?_;refine bm (ub (p:=aX k i) rfl rfl (fJ k i) (by decide)) (bm (BP (s:=⟨([48,49,50,51,52,53,54,55,56,57,97,98,99,100,101,102]:aB).toArray⟩) (v:=(gv (eF k (2*i))).toNat) Tryz.underlying9 rfl rfl (Int.natCast_nonneg _) (S5 k i)) (Gq ?_));refine bm (Jz (p:=aX k i) (q:=15) rfl rfl rfl rfl (fJ k i) (by decide)) (bm (BP (s:=⟨([48,49,50,51,52,53,54,55,56,57,97,98,99,100,101,102]:aB).toArray⟩) (v:=(gv (eF k (2*i+1))).toNat) Tryz.underlying9 rfl rfl (Int.natCast_nonneg _) (S6 k i)) (JC (sG (RF (enc:=aL) rfl (vals:=[_,_]) [(gv (eF k (2*i))),(gv (eF k (2*i+1)))] rfl rfl rfl (by decide) (by decide) fun nt=>sH ?_))));simp only[anK,anh];refine jY (s:=o) (ys:=[(gv (eF k (2*i))),(gv (eF k (2*i+1)))]) rfl rfl (by decide) (fun w hw=>gP (s:=⟨false,nt,0,2,2,none⟩) Tryz.underlying53 (by decide) ((inferInstance:Hd _ _ ⟨false,nt,0,2,2,none⟩ aL 1 [(gv (eF k (2*i))),(gv (eF k (2*i+1)))]).h w hw)) (by simp only[adr,ad2,af0];omega) (by simp only[adr,ad2,af0];omega) fun Zb aiS aiT=>?_;refine an ?_;refine Gi ?_;exact bg (x:=(i,o,q)) (i+1,Zb,q++[gv (eF k (2*i)),gv (eF k (2*i+1))]) ⟨oF,by simp only;rw[hq,S7 k oF]⟩ (by simp only;omega) sb (fun w hw=>ag.mem hw)
 refine ao ?_;refine ae (EX Tryz.underlying53 Tryz.underlying5 Tryz.underlying9 rfl) (aj ?_);refine Gr fun w1 hw=>?_;exact⟨(by rw[ik,h0,if_pos rfl,nE,if_neg h1,hq,amr (by rw[vP];omega)];rfl),ag.mem hw⟩⟩
instance aiU{p:cz}[tb:Tabs w0]:bD Tryz.prog 84 w0 L [.agg (cl p)] (.tuple #[.string ⟨(iX p).toArray⟩, .int .i64 (eo (bO p))]) (True):=⟨fun aw w hw=>by
 have tb:=tb.at hw;have sQ:=Cl p.key p.bits;refine bQ Tryz.func84 rfl Tryz.ntmps84 rfl ?_;refine Gc ?_;refine bJ rfl fun b1=>ct ?_;refine Gb ?_ ?_<;>intro h0
 ·
  refine an ?_;refine Gr fun w1 hw=>?_;exact⟨(by rw[iX,h0];rfl),ag.mem hw⟩
 obtain⟨k1,k2,k3⟩:=Fq h0;have uY:=iV 3 p.len.toNat oM (by decide);refine ao ?_;refine ae (dy rfl) (an ?_);refine ae (ax (v:= .string ⟨(ik p.key p.bits).toArray⟩) rfl rfl) (ae (ax (v:= .int .i64 (eo (iF p.key p.bits))) rfl rfl) (aQ ?_));refine Gb ?_ ?_<;>intro h1
 ·
  exfalso;rw[k1]at h1;simp[eo]at h1
 refine an ?_;refine ck (br rfl ⟨k2,by omega⟩) ?_;refine kO (enc:=gu) (vals:=[_,_]) [(ik p.key p.bits),(dec p.len.toNat)] rfl rfl rfl (by decide) (by decide) fun b24=>?_;refine ck (br rfl (KO _ _ 47 oM)) (aj ?_);refine Gr fun w1 hw=>?_;exact⟨(by rw[iX,h0,if_pos rfl,Fo,rh,ik,if_pos k1];rfl),ag.mem hw⟩⟩
instance aiV{p:cz}:bD Tryz.prog 89 w0 L [.agg (cl p)] (.tuple #[.string ⟨(iX p).toArray⟩, .int .i64 (eo (bO p))]) (True):=⟨fun aw w hw=>by
 have sQ:=Cl p.key p.bits;refine bQ Tryz.func89 rfl Tryz.ntmps89 rfl ?_;refine Gc ?_;refine bJ rfl fun b1=>ct ?_;refine Gb ?_ ?_<;>intro h0
 ·
  refine an ?_;refine Gr fun w1 hw=>?_;exact⟨(by rw[iX,h0];rfl),ag.mem hw⟩
 obtain⟨k1,k2,k3⟩:=Fq h0;have uY:=iV 3 p.len.toNat oM (by decide);refine ao ?_;refine ae (dy rfl) (an ?_);refine ae (ax (v:= .string ⟨(ik p.key p.bits).toArray⟩) rfl rfl) (ae (ax (v:= .int .i64 (eo (iF p.key p.bits))) rfl rfl) (an ?_));refine ae (jC rfl rfl (by simp only[adr,ad2,af0];omega)) (ao ?_);refine ck (br rfl ⟨k2,by omega⟩) (ae (jC rfl rfl (by simp only[adr,ad2,af0];omega)) (aj ?_));refine Gr fun w1 hw=>?_;exact⟨(by rw[iX,h0,if_pos rfl,rh,ik,if_pos k1,ams];rfl),ag.mem hw⟩⟩
instance aiW{r:Rt}[tb:Tabs w0]:bD Tryz.prog 41 w0 L [.agg (av r)] (.tuple #[.string ⟨(iG r).toArray⟩, .int .i64 (eo (bO r.p))]) (True):=⟨fun aw w hw=>by
 have tb:=tb.at hw;have gA:=Cm r.p;have uY:=iV 5 r.eC.toNat (ano (anN _) (by decide)) (by decide);refine bQ Tryz.func41 rfl Tryz.ntmps41 rfl ?_;refine Gc ?_;refine bJ rfl fun b1=>an ?_;refine ae (dy rfl) (ao ?_);refine ae (ax (v:= .string ⟨(iX r.p).toArray⟩) rfl rfl) (ae (ax (v:= .int .i64 (eo (bO r.p))) rfl rfl) (aQ ?_));refine Gb ?_ ?_<;>intro h0
 ·
  have e0:bO r.p=false:=by cases e:bO r.p with
   |false=>rfl
   |true=>rw[e]at h0;simp[eo]at h0
  refine aG ?_;refine Gr fun w1 hw=>?_;exact⟨(by rw[iG,e0];rfl),ag.mem hw⟩
 have e0:bO r.p=true:=by cases e:bO r.p with
  |true=>rfl
  |false=>rw[e]at h0;simp[eo]at h0
 refine an ?_;refine ae (J3 rfl) (ck (br rfl (by first|omega|exact ano (aod _) (by decide)|exact ano (anN _) (by decide))) ?_);refine kO (enc:=gu) (vals:=[_,_]) [(iX r.p),(dec r.eC.toNat)] rfl rfl rfl (by decide) (by decide) fun gK=>?_;refine ck (br rfl (KO _ _ 32 oM)) (aj ?_);refine Gr fun w1 hw=>?_;exact⟨(by rw[iG,e0,if_pos rfl,Fo,vQ,iX,if_pos e0];rfl),ag.mem hw⟩⟩
instance aiX{r:Rt}:bD Tryz.prog 88 w0 L [.agg (av r)] (.tuple #[.string ⟨(iG r).toArray⟩, .int .i64 (eo (bO r.p))]) (True):=⟨fun aw w hw=>by
 have gA:=Cm r.p;have uY:=iV 5 r.eC.toNat (ano (anN _) (by decide)) (by decide);refine bQ Tryz.func88 rfl Tryz.ntmps88 rfl ?_;refine Gc ?_;refine bJ rfl fun b1=>an ?_;refine ae (dy rfl) (ao ?_);refine ae (ax (v:= .string ⟨(iX r.p).toArray⟩) rfl rfl) (ae (ax (v:= .int .i64 (eo (bO r.p))) rfl rfl) (aQ ?_));refine Gb ?_ ?_<;>intro h0
 ·
  have e0:bO r.p=false:=by cases e:bO r.p with
   |false=>rfl
   |true=>rw[e]at h0;simp[eo]at h0
  refine aG ?_;refine Gr fun w1 hw=>?_;exact⟨(by rw[iG,e0];rfl),ag.mem hw⟩
 have e0:bO r.p=true:=by cases e:bO r.p with
  |true=>rfl
  |false=>rw[e]at h0;simp[eo]at h0
 refine ao ?_;refine ae (jC rfl rfl (by simp only[adr,ad2,af0];omega)) (ao ?_);refine ae (J3 rfl) (ck (br rfl (by first|omega|exact ano (aod _) (by decide)|exact ano (anN _) (by decide))) (ae (jC rfl rfl (by simp only[adr,ad2,af0];omega)) (aj ?_)));refine Gr fun w1 hw=>?_;exact⟨(by rw[iG,e0,if_pos rfl,vQ,iX,if_pos e0,ams];rfl),ag.mem hw⟩⟩
instance aiY{x:aO}[tb:gS w0]:bD Tryz.prog 32 w0 L [.agg (aZ x)] (.tuple #[.string ⟨(ru x).toArray⟩, .int .i64 (ov x)]) (True):=⟨fun aw w hw=>by
 have tb:=tb.at hw;have Zc:=UK x.kind;refine bQ Tryz.func32 rfl Tryz.ntmps32 rfl ?_;refine Gc ?_;refine bJ rfl fun b1=>aG ?_;refine ae (cX rfl) (bc fun b4=>an ?_);refine fb ?_;refine mB (X:=aO×aB×Int) (fun U=>[(4, .pointer (some ⟨b4,0,none⟩)),(5, .string ⟨U.2.1.toArray⟩),(6, .int .i64 U.2.2),(1, .pointer (some ⟨b1,0,none⟩))]) (fun U=>[al b4 (aZ U.1) 73,al b1 (aZ x) 73]) (fun U=>U.1=hQ x/\(U.2.2=0->gD x=true/\U.2.1=iH x)/\(U.2.2≠0->gD x=false)/\ ¬(x.kind=3\/x.kind=7\/x.kind=8)) ?_ ?_
 ·
  refine ct ?_;refine Gb ?_ ?_<;>intro h0
  ·
   have kB:hQ x=(⟨x.kind,x.r,0#128,0,0⟩:aO):=by rw[hQ,if_pos h0]
   have lH:gD x=bO x.r.p:=by rw[gD,if_pos (.inl h0)]
   have k7:iH x=iG x.r:=by rw[iH,if_pos h0]
   refine ao ?_;refine ae (dy rfl) (Gs ?_);refine lL (cs':=aZ (⟨x.kind,x.r,0#128,0,0⟩:aO)) rfl rfl (by rw[iK];decide) (HZ (⟨x.kind,bp,0#128,0,0⟩:aO) x.r) (ao ?_);refine ae (dy rfl) (ao ?_);refine ae (ax (v:= .string ⟨(iG x.r).toArray⟩) rfl rfl) (ae (ax (v:= .int .i64 (eo (bO x.r.p))) rfl rfl) (ao ?_));refine fb ?_;exact eD ((⟨x.kind,x.r,0#128,0,0⟩:aO),iG x.r,eo (bO x.r.p)) ⟨kB.symm,fun g=>⟨lH.trans (xP.1 g),k7.symm⟩,fun g=>by rw[lH];cases hq:bO x.r.p with|false=>rfl|true=>simp only[hq]at g;exact absurd rfl g,oF⟩ sb (fun w hw=>ag.mem hw)
  refine an ?_;refine Gb ?_ ?_<;>intro h1
  ·
   have kB:hQ x=(⟨x.kind,⟨x.r.p,0⟩,0#128,0,0⟩:aO):=by rw[hQ,if_neg h0,if_pos h1]
   have lH:gD x=bO x.r.p:=by rw[gD,if_pos (.inr h1)]
   have k7:iH x=iX x.r.p:=by rw[iH,if_neg h0,if_pos h1]
   refine aj ?_;refine ae (dy rfl) (ao ?_);refine lL (cs':=aZ (⟨x.kind,⟨x.r.p,0⟩,0#128,0,0⟩:aO)) rfl rfl (by rw[iK];decide) (H2 (⟨x.kind,bp,0#128,0,0⟩:aO) x.r.p) (aj ?_);refine ae (dy rfl) (ao ?_);refine ae (ax (v:= .string ⟨(iX x.r.p).toArray⟩) rfl rfl) (ae (ax (v:= .int .i64 (eo (bO x.r.p))) rfl rfl) (ao ?_));refine fb ?_;exact eD ((⟨x.kind,⟨x.r.p,0⟩,0#128,0,0⟩:aO),iX x.r.p,eo (bO x.r.p)) ⟨kB.symm,fun g=>⟨lH.trans (xP.1 g),k7.symm⟩,fun g=>by rw[lH];cases hq:bO x.r.p with|false=>rfl|true=>simp only[hq]at g;exact absurd rfl g,oF⟩ sb (fun w hw=>ag.mem hw)
  refine an ?_;refine Gb ?_ ?_<;>intro h2
  ·
   have kB:hQ x=(⟨x.kind,bp,x.key,x.bits,0⟩:aO):=by rw[hQ,if_neg h0,if_neg h1,if_pos h2]
   have lH:gD x=iF x.key x.bits:=by rw[gD,if_neg (fun g=>g.elim h0 h1),if_pos h2]
   have k7:iH x=ik x.key x.bits:=by rw[iH,if_neg h0,if_neg h1,if_pos h2]
   refine Gi ?_;refine gB [5,7,1000,1001,1004,1006] [[],[0],[],[],[0,1],[0,1,4],[0,1,4,5],[0,1,4,5,6]] [0,1,2,3,4,5,6,7] [al b1 (aZ x) 73] (fun _ hw=>ag.mem hw) oK oK (fh rfl (aK (o':=20) rfl rfl) (fh rfl (dy rfl) (ak rfl (aK (o':=36) rfl rfl) (ak rfl (bA rfl) (fh rfl (aK (o':=20) rfl rfl) ?_)))));refine cC rfl (FR (cs':=aZ (⟨x.kind,bp,x.key,0,0⟩:aO)) rfl rfl (by rw[iK];decide) (H3 (⟨x.kind,bp,0#128,0,0⟩:aO) x.key) ⟨fun _ hw=>ag.mem hw,?_⟩);refine fh rfl (aK (o':=36) rfl rfl) ?_;refine cC rfl (rn (cs':=aZ (⟨x.kind,bp,x.key,x.bits,0⟩:aO)) rfl rfl (by rw[iK];decide) rfl (H4 (⟨x.kind,bp,x.key,0,0⟩:aO) x.bits) ⟨fun _ hw=>ag.mem hw,?_⟩);refine ao ?_;refine ae (dy rfl) (an ?_);refine ae (ax (v:= .string ⟨(ik x.key x.bits).toArray⟩) rfl rfl) (ae (ax (v:= .int .i64 (eo (iF x.key x.bits))) rfl rfl) (ao ?_));refine fb ?_;exact eD ((⟨x.kind,bp,x.key,x.bits,0⟩:aO),ik x.key x.bits,eo (iF x.key x.bits)) ⟨kB.symm,fun g=>⟨lH.trans (xP.1 g),k7.symm⟩,fun g=>by rw[lH];cases hq:iF x.key x.bits with|false=>rfl|true=>simp only[hq]at g;exact absurd rfl g,oF⟩ sb (fun w hw=>ag.mem hw)
  have oW:gD x=if x.kind=5\/x.kind=6 then decide (0<=x.n.toInt/\x.n.toInt<=999)else decide (x.kind=3\/x.kind=7\/x.kind=8):=by rw[gD,if_neg (fun g=>g.elim h0 h1),if_neg h2]
  have nW:hQ x=if x.kind=5\/x.kind=6 then(⟨x.kind,bp,0#128,0,x.n⟩:aO)else(⟨x.kind,bp,0#128,0,0⟩:aO):=by rw[hQ,if_neg h0,if_neg h1,if_neg h2]
  have Zd:iH x=dec x.n.toInt.toNat:=by rw[iH,if_neg h0,if_neg h1,if_neg h2]
  refine mB (X:=Bool) (fun U=>[(53, .bool U),(1, .pointer (some ⟨b1,0,none⟩)),(4, .pointer (some ⟨b4,0,none⟩)),(5, .string ⟨[].toArray⟩),(6, .int .i64 0),(11, .int .i64 x.kind)]) (fun U=>[al b4 (aZ (⟨x.kind,bp,0#128,0,0⟩:aO)) 73,al b1 (aZ x) 73]) (fun U=>U=decide (x.kind=5\/x.kind=6)) ?_ ?_
  ·
   refine an ?_;refine Gb ?_ ?_<;>intro h3
   ·
    refine Gi ?_;exact eD (decide (x.kind=5)) (by simp[h3]) sb (fun w hw=>ag.mem hw)
   refine Gi ?_;refine ao ?_;refine Gi ?_;exact eD (decide (x.kind=6)) (by simp[h3]) sb (fun w hw=>ag.mem hw)
  rintro z hz;refine Gb ?_ ?_<;>intro h4
  ·
   have nX:x.kind=5\/x.kind=6:=of_decide_eq_true (hz.symm.trans h4);rw[if_pos nX]at oW nW;refine an ?_;refine cR (cs':=aZ (⟨x.kind,bp,0#128,0,x.n⟩:aO)) rfl rfl (by rw[iK];decide) rfl (H5 (⟨x.kind,bp,0#128,0,0⟩:aO) x.n) (Lf ?_);refine Gb ?_ ?_<;>intro h5
   ·
    refine Gi ?_;refine Gs ?_;refine fb ?_;exact eD ((⟨x.kind,bp,0#128,0,x.n⟩:aO),Lib.itoa x.n.toInt,1) ⟨nW.symm,fun g=>absurd (show(1:Int)=0 from g) (by decide),fun _=>by rw[oW];exact decide_eq_false oF,oF⟩ sb (fun w hw=>ag.mem hw)
   refine fb ?_;exact eD ((⟨x.kind,bp,0#128,0,x.n⟩:aO),Lib.itoa x.n.toInt,0) ⟨nW.symm,fun _=>⟨by rw[oW];exact decide_eq_true oF,by rw[Zd];exact UW oF⟩,fun g=>absurd rfl g,oF⟩ sb (fun w hw=>ag.mem hw)
  have nX: ¬(x.kind=5\/x.kind=6):=of_decide_eq_false (hz.symm.trans h4);rw[if_neg nX]at oW nW;refine mB (X:=Bool) (fun U=>[(70, .bool U),(1, .pointer (some ⟨b1,0,none⟩)),(4, .pointer (some ⟨b4,0,none⟩)),(5, .string ⟨[].toArray⟩)]) (fun U=>[al b4 (aZ (⟨x.kind,bp,0#128,0,0⟩:aO)) 73,al b1 (aZ x) 73]) (fun U=>U=decide (x.kind=3\/x.kind=7\/x.kind=8)) ?_ ?_
  ·
   refine an ?_;refine Gb ?_ ?_<;>intro h6
   ·
    refine Gi ?_;exact eD (decide (x.kind=3)) (by simp[h6]) sb (fun w hw=>ag.mem hw)
   refine an ?_;refine Gb ?_ ?_<;>intro h7
   ·
    refine Gi ?_;exact eD (decide (x.kind=7)) (by simp[h7]) sb (fun w hw=>ag.mem hw)
   refine Gi ?_;refine ao ?_;refine Gi ?_;exact eD (decide (x.kind=8)) (by simp[h6,h7]) sb (fun w hw=>ag.mem hw)
  rintro q hq;refine Gb ?_ ?_<;>intro h8
  ·
   have r9:x.kind=3\/x.kind=7\/x.kind=8:=of_decide_eq_true (hq.symm.trans h8);refine aj ?_;refine ae (sF rfl rfl) (Gc ?_);refine Gb ?_ ?_<;>intro h9
   ·
    have cF:et x=false:=by rw[et,nW,decide_eq_false h9,an2]
    refine an ?_;refine Gr fun w1 hw=>?_;exact⟨(by rw[(nQ cF).1,(nQ cF).2]),ag.mem hw⟩
   have cW:et x=true:=lW.2 ⟨by rw[oW];exact decide_eq_true r9,nW.trans h9⟩;refine ct ?_;refine Gr fun w1 hw=>?_;exact⟨(by rw[(jG cW).1,(jG cW).2,jF,if_pos r9]),ag.mem hw⟩
  have r9: ¬(x.kind=3\/x.kind=7\/x.kind=8):=of_decide_eq_false (hq.symm.trans h8);refine Gi ?_;refine Gs ?_;refine fb ?_;exact eD ((⟨x.kind,bp,0#128,0,0⟩:aO),[],1) ⟨nW.symm,fun g=>absurd (show(1:Int)=0 from g) (by decide),fun _=>by rw[oW];exact decide_eq_false r9,r9⟩ sb (fun w hw=>ag.mem hw)
 rintro⟨y,t,e⟩ ⟨jc,dk,fN,iL⟩;dsimp only;simp only at jc dk fN iL;refine an ?_;refine aV rfl rfl rfl (fun hg=>(Ry.yl (fu rfl))) (aV rfl rfl rfl (fun hg=>(Ry.yl (fu rfl))) (aV rfl rfl rfl (fun hg=>(Ry.yl (sF (au hg rfl) (au hg rfl)))) (ao ?_)));refine Gb (fun iw=>?_) fun iw=>?_
 ·
  have cF:et x=false:=by
   rw[et];rcases iw with g|g
   ·
    rw[fN g,aoK]
   rw[←jc,decide_eq_false g,an2]
  refine an ?_;refine Gr fun w1 hw=>?_;exact⟨(by rw[(nQ cF).1,(nQ cF).2]),ag.mem hw⟩
 have cW:et x=true:=lW.2 ⟨(dk iw.1).1,jc.symm.trans iw.2⟩;have O7:=(dk iw.1).2;have lI:=Ak cW;refine an ?_;refine ae (jC rfl rfl (by simp only[ad2,af0];omega)) (Gs ?_);refine ae (jC rfl rfl (by rw[O7];simp only[adr,ad2,af0];omega)) (aj ?_);refine Gr fun w1 hw=>?_;exact⟨(by rw[(jG cW).1,(jG cW).2,jF,if_neg iL,O7,ams];rfl),ag.mem hw⟩⟩
end Go.Proofs.YtkggjjnhnjjokaaGreatDoor
namespace Go.ay
open Go.RowKit
variable {w0:World}{L:List ah}
theorem Mem.putObj{w:World}{e e':ah}{l:Nat}{o:Obj}(h:Mem w0 (e::L) w)(su: ∀k,e'.fp k->e.fp k)(hl:e.fp l)
  (Ei:e'.sat fun k=>(w.putObj l o).heap[k]?):Mem w0 (e'::L) (w.putObj l o):=
 h.change (i:=0) rfl su (fun k hk=>World.putObj_heap_other (fun sQ=>hk (sQ▸hl))) World.putObj_size ⟨rfl,rfl,rfl⟩ Ei
section
variable {P:Program} {N:cc} {w0:World} {env:Env} {L:List ah} {Q:Exit->Act->World->Prop}
end
section
variable {P:Program} {n:Nat} {w0:World} {env:Env} {L:List ah} {Q:Exit->Act->World->Prop} {l:List Oper} {k:Nat} {rest:List Oper}
theorem drop_at{α:Type}{l rest:List α}{k:Nat}{o:α}(h:l.drop k=o::rest):l[k]? =some o/\l.drop (k+1)=rest:=by
 constructor
 ·
  have:=congrArg (·[0]?) h;simpa using this
 have:=congrArg (List.drop 1) h;simpa[aox,aoy]using this
end
def omap(P:Program)(k:TypeId){α β:Type}(cL:α->Value)(dA:β->Value)(b:Nat)(f:α->Option β):ah:=
  ⟨fun i=>i=b,fun h=> ∃(es:Array MapEntry) (clock:Nat) (m:List (α×β)),h b=some (.map es clock)/\es.toList.map (fun e=>(e.key,e.val))=m.map (fun p=>(cL p.1,dA p.2))/\
    (∀p∈m,∃l,keyOf P k (cL p.1)=some l)/\(m.map Prod.fst).Nodup/\(∀x v,f x=some v↔(x,v)∈m),
   fun h h' e st=>by rw[e b rfl];exact st⟩
class yJ(P:Program)(t:TypeId)(k e:outParam TypeId):Prop where
  dK:P.underlying t=some (.map k e)
class AS(P:Program)(k:TypeId):Prop where
  K:Maps.Keyed P k
class AT{α:Type}(cL:α->Value):Prop where
  inj: ∀{a b:α},cL a=cL b->a=b
class u4(P:Program)(L:List ah)(b:Nat){α β:outParam Type}(k:TypeId)(cL:outParam (α->Value))(dA:outParam (β->Value))(f:outParam (α->Option β))(i:outParam Nat):Prop where
  h:L[i]? =some (omap P k cL dA b f)
instance (priority:=high) u4.here {P:Program}{L:List ah}{b:Nat}{α β:Type}{k:TypeId}{cL:α->Value}{dA:β->Value}{f:α->Option β}:u4 P (omap P k cL dA b f::L) b k cL dA f 0:=⟨rfl⟩
instance u4.there{P:Program}{L:List ah}{e:ah}{b:Nat}{α β:Type}{k:TypeId}{cL:α->Value}{dA:β->Value}{f:α->Option β}{i:Nat}[q:u4 P L b k cL dA f i]:u4 P (e::L) b k cL dA f (i+1):=⟨by simpa using q.h⟩
theorem O8{P:Program}{k:TypeId}{α β:Type}{cL:α→Value}{dA:β→Value}{f:α→Option β}[K:AS P k][I:AT cL]{es:Array MapEntry}{m:List (α×β)}(h1:es.toList.map (fun e=>(e.key,e.val))=m.map (fun p=>(cL p.1,dA p.2)))
    (h2: ∀p∈m,∃l,keyOf P k (cL p.1)=some l) (h3: ∀x v,f x=some v↔(x,v)∈m) {x:α} (hx: ∃l,keyOf P k (cL x)=some l) (w:World):
    ((Instr.findKey k (cL x) es.toList).run P w= .ok none w/\f x=none/\ ∀v,(x,v)∉m)\/ ∃(j:Nat) (v:β),(Instr.findKey k (cL x) es.toList).run P w= .ok (some (j,dA v)) w/\m[j]? =some (x,v)/\f x=some v/\(es[j]?).map (·.key)=some (cL x):=by
  have oN: ∀j:Nat,(es.toList[j]?).map (fun e=>(e.key,e.val))=(m[j]?).map (fun p=>(cL p.1,dA p.2)):=fun j=>by rw[←amx,←amx,h1]
  have mz: ∀e∈es.toList,∃l,keyOf P k e.key=some l:=fun e he=>by
    obtain⟨j,hj,rfl⟩:=an6 he;have:=oN j;rw[amG hj]at this
    cases hm:m[j]?with
    |none=>rw[hm]at this;cases this
    |some p=>
     rw[hm]at this;simp only[am3,anC,aoR]at this;rw[this.1];exact h2 p (amm hm)
  obtain⟨lx,tA⟩:=hx;rcases K.K.find w tA es.toList mz with⟨hr,hn⟩|⟨j,e,hr,hj,hk⟩
  ·have cF: ∀v,(x,v)∉m:=fun v hv=>by
      obtain⟨j,hj,Ze⟩:=an6 hv;have:=oN j;rw[amG hj,Ze]at this
      cases he:es.toList[j]?with
      |none=>rw[he]at this;cases this
      |some e=>
       rw[he]at this;simp only[am3,anC,aoR]at this;exact hn e (amm he) this.1
   refine .inl ⟨hr,?_,cF⟩
   cases hf:f x with
   |none=>rfl
   |some v=>exact absurd ((h3 x v).1 hf) (cF v)
  ·have:=oN j
   rw[hj]at this
   cases hm:m[j]?with
   |none=>rw[hm]at this;cases this
   |some p=>
    rw[hm]at this;simp only[am3,anC,aoR]at this;have hp:p.1=x:=I.inj (this.1.symm.trans hk);refine .inr ⟨j,p.2,by rw[hr,this.2],by rw[hm,←hp],(h3 x p.2).2 (by rw[←hp];exact amm hm),?_⟩;have jU:es[j]? =some e:=by simpa using hj
    rw[jU,am3,hk]
section
variable {P:Program} {N:cc} {w0:World} {env:Env} {L:List ah} {d:Option Tmp} {ty:TypeId} {ps:String} {af:Array Edge} {gd:Option (Nat×Bool)} {α β:Type} {cL:α->Value} {dA:β->Value} {f:α->Option β}
theorem run_getObj_map{w:World}{b:Nat}{es:Array MapEntry}{clock:Nat}(h:w.heap[b]? =some (.map es clock)):(getObj b).run P w= .ok (.map es clock) w:=by simp[getObj,Sem.run,h]
theorem run_setObj_map{w:World}{b:Nat}{es:Array MapEntry}{clock:Nat}(o:Obj)(h:w.heap[b]? =some (.map es clock)):(setObj b o).run P w= .ok () (w.putObj b o):=by simp[setObj,Sem.run,h,World.putObj]
theorem H6{t k e:TypeId}{m x:Operand}{b i:Nat}{z:β}{v:α}[ht:yJ P t k e][K:AS P k][I:AT cL][hz:dH P e (dA z)](hm:ev env m=some (.map (some b)))(hx:ev env x=some (cL v))[q:u4 P L b k cL dA f i](hv: ∃l,keyOf P k (cL v)=some l):
    Ry P N w0 env L ⟨d, .lookup t m x true,ty,ps,af,gd⟩ (.tuple #[dA ((f v).getD z), .bool (f v).isSome]):=fun a w ha hw=>by
  obtain⟨es,clock,ml,h0,h1,h2,_,h3⟩:=hw.get q.h;obtain⟨l,hl⟩:=hv;have hc:=K.K.check w es.isEmpty hl;simp only[execOp,ha.ev hm,ha.ev hx,Instr.lookup,Sem.run_bind,run_underlying ht.dK,Result.andThen,run_getObj_map h0,Sem.run_pure,hc];rcases O8 (P:=P) (k:=k) h1 h2 h3 ⟨l,hl⟩ w with⟨hr,hf,_⟩|⟨j,u,hr,_,hf,_⟩
  ·simp only[hr,hf,Option.getD_none,BN w hz,Sem.run_bind,Result.andThen,Sem.run_pure];rfl
  ·simp only[hr,hf,aok,Sem.run_pure];rfl
end
section
variable {P:Program} {N:cc} {w0:World} {env:Env} {L:List ah} {l:List Oper} {Q:Exit->Act->World->Prop} {rest:List Oper} {d:Option Tmp} {ty:TypeId} {ps:String} {af:Array Edge} {α β:Type} {cL:α->Value} {dA:β->Value} {f:α->Option β}
theorem Mem.O9{w:World}(P:Program)(k:TypeId)(cL:α->Value)(dA:β->Value)(h:Mem w0 L w):Mem w0 (omap P k cL dA w.heap.size (fun _=>none)::L) (w.alloc (.map #[] 0)):=by
  refine h.call (E:=[omap P k cL dA w.heap.size (fun _=>none)]) ⟨(Below.refl _ _).alloc (amz _) _,fun e he=>?_,fun e he j hj=>?_,by simp⟩
  ·obtain rfl:e=omap P k cL dA w.heap.size (fun _=>none):=by simpa using he
   exact⟨#[],0,[],Below.zb w _,rfl,by simp,by simp,by simp⟩
  ·obtain rfl:e=omap P k cL dA w.heap.size (fun _=>none):=by simpa using he
   have:j=w.heap.size:=hj;subst this;simp
theorem Zf{t k e:TypeId}(cL:α→Value)(dA:β→Value){r:Operand}{kk:IntKind}{n:Int}[ht:yJ P t k e](hr:ev env r=some (.int kk n))(hk: ∀b,Sq P N w0 l Q rest (bZ env d (.map (some b))) (omap P k cL dA b (fun _=>none)::L))(hd:cN N d=true:=by rfl):
    Sq P N w0 l Q (⟨d, .makeMap t (some r),ty,ps,af,none⟩::rest) env L:=
  lj rfl hd fun a w ha hw=>⟨_,_,_,by
    simp only[execOp,am3,ha.ev hr,Instr.makeMap,Sem.run_bind,run_underlying ht.dK,Result.andThen,Sem.run_pure,asInt,asIntOf,newObj,Sem.run];rfl,hw.O9 P k cL dA,hk _⟩
theorem Pa{t k e:TypeId}(cL:α→Value)(dA:β→Value)[ht:yJ P t k e](hk: ∀b,Sq P N w0 l Q rest (bZ env d (.map (some b))) (omap P k cL dA b (fun _=>none)::L))(hd:cN N d=true:=by rfl):
    Sq P N w0 l Q (⟨d, .makeMap t none,ty,ps,af,none⟩::rest) env L:=
  lj rfl hd fun a w ha hw=>⟨_,_,_,by
    simp only[execOp,aoo,Instr.makeMap,Sem.run_bind,Result.andThen,Sem.run_pure,newObj,Sem.run];rfl,hw.O9 P k cL dA,hk _⟩
theorem Zg{t k e:TypeId}{m x y:Operand}{b i:Nat}{v:α}{u:β}[DecidableEq α][ht:yJ P t k e][K:AS P k][I:AT cL](hm:ev env m=some (.map (some b)))(hx:ev env x=some (cL v))(hy:ev env y=some (dA u))[q:u4 P L b k cL dA f i](hv: ∃l,keyOf P k (cL v)=some l)
    {L':List ah} [hu:eK L i (omap P k cL dA b (fun z=>if z=v then some u else f z)) L'] {a:Act} {w:World} (ha:cM N env a) (hw:Mem w0 L w):
    ∃w',(execOp a.eval ⟨none, .mapUpdate t m x y,ty,ps,af,none⟩).run P w= .ok .skip w'/\Mem w0 L' w':=by
  obtain⟨es,clock,ml,h0,h1,h2,cn,h3⟩:=hw.get q.h;obtain⟨lk,hl⟩:=hv;have hc:=K.K.check w false hl;have bE:=K.K.stays w hl;have step: ∀o:Obj,(omap P k cL dA b (fun z=>if z=v then some u else f z)).sat (fun j=>(w.putObj b o).heap[j]?)->Mem w0 L' (w.putObj b o):=fun o ho=>by
    rw[←hu.h];exact hw.change q.h (fun j hj=>hj) (fun j hj=>World.putObj_heap_other (fun e=>hj e)) World.putObj_size ⟨rfl,rfl,rfl⟩ ho
  have bx:b<w.heap.size:=(anE.1 h0).1;rcases O8 (P:=P) (k:=k) h1 h2 h3 ⟨lk,hl⟩ w with⟨hr,hf,cF⟩|⟨j,u0,hr,hj,hf,Zh⟩
  ·refine⟨w.putObj b (.map (es.push {key:=cL v,val:=dA u,born:=clock}) (clock+1)),?_,step _ ⟨_,_,ml++[(v,u)],World.putObj_heap_same bx,?_,?_,?_,?_⟩⟩
   ·simp only[execOp,ha.ev hm,ha.ev hx,ha.ev hy,Instr.mapUpdate,Sem.run_bind,run_underlying ht.dK,Result.andThen,run_getObj_map h0,hc,hr,run_setObj_map _ h0,Sem.run_pure]
   ·simp[h1]
   ·intro p hp
    rcases amM.1 hp with hp|hp
    ·exact h2 p hp
    ·obtain rfl:p=(v,u):=by simpa using hp
     exact⟨lk,hl⟩
   ·rw[am0,anL]
    refine⟨cn,by simp,fun x1 qq y1 H7 e1=>?_⟩;obtain rfl:y1=v:=by simpa using H7
    subst e1;obtain⟨p,hp,rfl⟩:=anB.1 qq;exact cF p.2 hp
   ·intro x' v'
    show(if x'=v then some u else f x')=some v'↔_
    by_cases e:x'=v
    ·subst e;rw[if_pos rfl]
     constructor
     ·intro h;cases h;simp
     ·intro h
      rcases amM.1 h with h|h
      ·exact absurd h (cF v')
      ·simp at h;rw[h]
    ·rw[if_neg e,h3 x' v'];simp[e]
  ·have jT:j<ml.length:=(zz.1 hj).1
   refine⟨w.putObj b (.map (es.modify j fun e=>{e with key:=cL v,val:=dA u}) clock),?_,step _ ⟨_,_,ml.set j (v,u),World.putObj_heap_same bx,?_,?_,?_,?_⟩⟩
   ·simp only[execOp,ha.ev hm,ha.ev hx,ha.ev hy,Instr.mapUpdate,Sem.run_bind,run_underlying ht.dK,Result.andThen,run_getObj_map h0,hc,hr,Zh,aok,bE,run_setObj_map _ h0,Sem.run_pure]
   ·refine anq fun n=>?_
    have:=congrArg (·[n]?) h1;simp only[amx]at this⊢;rw[anD]
    by_cases e:j=n
    ·subst e
     rw[if_pos rfl,if_pos jT];rw[hj]at this
     cases he:es.toList[j]?with
     |none=>rw[he]at this;cases this
     |some e0=>
      have og:es[j]? =some e0:=by simpa using he
      simp[Array.getElem?_modify,og]
    ·rw[if_neg e,←this]
     simp[Array.getElem?_modify,e]
   ·intro p hp
    rcases ani hp with hp|rfl
    ·exact h2 p hp
    ·exact⟨lk,hl⟩
   ·rw[aoh]
    have:(ml.map Prod.fst)[j]? =some v:=by rw[amx,hj];rfl
    rw[show(ml.map Prod.fst).set j (v,u).1=ml.map Prod.fst from by
        refine anq fun n=>?_;rw[anD]
        by_cases e:j=n
        ·subst e;rw[if_pos rfl,if_pos (by simpa using jT),this]
        ·rw[if_neg e]]
    exact cn
   ·intro x' v'
    have Zi: ∀n p,ml[n]? =some p→p.1=v→n=j:=fun n p hn hp=>by
        have a1:(ml.map Prod.fst)[n]? =some v:=by rw[amx,hn,am3,hp]
        have a2:(ml.map Prod.fst)[j]? =some v:=by rw[amx,hj];rfl
        exact(List.getElem?_inj (by simpa using(zz.1 hn).1) cn).1 (a1.trans a2.symm)
    show(if x'=v then some u else f x')=some v'↔_
    by_cases e:x'=v
    ·subst e;rw[if_pos rfl]
     constructor
     ·intro h;cases h
      exact amm (i:=j) (by rw[anD,if_pos rfl,if_pos jT])
     ·intro h
      obtain⟨n,hn⟩:=List.mem_iff_getElem?.1 h;rw[anD]at hn
      by_cases en:j=n
      ·rw[if_pos en,if_pos jT]at hn;simp only[anC,aoR,true_and]at hn;rw[hn]
      ·rw[if_neg en]at hn;exact absurd (Zi n _ hn rfl).symm en
    ·rw[if_neg e,h3 x' v']
     constructor
     ·intro h
      obtain⟨n,hn⟩:=List.mem_iff_getElem?.1 h;refine amm (i:=n) ?_;rw[anD,if_neg,hn];rintro rfl;rw[hj]at hn;simp only[anC,aoR]at hn;exact e hn.1.symm
     ·intro h
      rcases ani h with h|h
      ·exact h
      ·simp only[aoR]at h;exact absurd h.1 e
theorem H8{t k e:TypeId}{m x y:Operand}{b i:Nat}{v:α}{u:β}[DecidableEq α][ht:yJ P t k e][K:AS P k][I:AT cL](hm:ev env m=some (.map (some b)))(hx:ev env x=some (cL v))(hy:ev env y=some (dA u))[q:u4 P L b k cL dA f i](hv: ∃l,keyOf P k (cL v)=some l)
    {L':List ah} [hu:eK L i (omap P k cL dA b (fun z=>if z=v then some u else f z)) L'] (hk:Sq P N w0 l Q rest env L'):
    Sq P N w0 l Q (⟨none, .mapUpdate t m x y,ty,ps,af,none⟩::rest) env L:=
  BR rfl rfl fun a w ha hw=>by
    obtain⟨w',h1,h2⟩:=Zg (t:=t) (k:=k) (e:=e) (ty:=ty) (ps:=ps) (af:=af) hm hx hy hv (L':=L') ha hw;exact⟨w',L',h1,h2,hk⟩
end
end Go.ay
namespace Go.Proofs.YtkggjjnhnjjokaaGreatDoor
open Go.ay Go.Kb Go.RowKit
instance:dH Tryz.prog 97 (.agg (cO xR)):=⟨by kernel_rfl⟩
instance:dH Tryz.prog 180 (.agg (bU oz)):=⟨by kernel_rfl⟩
instance:dH Tryz.prog 59 (.agg (aS fL)):=⟨by kernel_rfl⟩
instance:dH Tryz.prog 5 (.int .u8 0):=⟨by kernel_rfl⟩
instance:dH Tryz.prog 53 (.slice none 0 0):=⟨by kernel_rfl⟩
variable {w0:World}{L:List ah}
instance aiZ{b:Int}{n:Int}{s:Int}:bD Tryz.prog 93 w0 L [.int .i64 b, .int .i64 n, .int .i64 s] (.bool (s0 b n s)) (True):=⟨fun aw w hw=>by
 refine rr Tryz.func93 rfl Tryz.ntmps93 rfl ?_;refine T7 ?_;refine Gr fun w1 hw=>?_;exact⟨congrArg (fun b=>Ending.returned (Value.bool b)) (rfl),ag.mem hw⟩⟩
instance ai0{c:Cp}[hc:aU w0 L c]:bD Tryz.prog 106 w0 L [.agg (aS c)] (.bool (bl (cv c))) (True):=⟨fun aw w hw=>by
 have hc:=hc.h w hw;have jS:cw w c:=⟨hc⟩;have dY:=fT c.blocks.xs;have cd:bl (cv c)=true↔s0 c.blocks.xs.length c.ab c.size=true/\0<=c.ops/\c.ops<=dG/\c.bb.xs.length<=64/\ ∀b∈hU c.blocks.xs,oB c.ab c.size b=true:=by rw[eB];simp only[cv,dY]
 have ti:dG=1099511627776:=rfl;refine bQ Tryz.func106 rfl Tryz.ntmps106 rfl ?_;refine Gc ?_;refine bJ rfl fun b1=>T8 ?_;refine Gb ?_ ?_<;>intro h0
 ·
  have hz:bl (cv c)=false:=by
   cases hk:bl (cv c)with
   |false=>rfl
   |true=>
    have g:=cd.1 hk;rw[g.1]at h0;simp only[anG,false_or]at h0;omega
  refine aj ?_;refine Gr fun w1 hw=>?_;exact Ge (hz.symm) hw
 have g0:s0 c.blocks.xs.length c.ab c.size=true/\0<=c.ops/\c.ops<=dG/\c.bb.xs.length<=64:=by
  cases hk:s0 c.blocks.xs.length c.ab c.size with
  |false=>rw[hk]at h0;simp at h0
  |true=>rw[hk]at h0;simp only[anG,not_false_eq_true,true_and]at h0;exact⟨rfl,by omega,by omega,by omega⟩
 have gs:=kt.1 g0.1;refine aQ ?_;refine bI (X:=Nat) (fun U=>[(35, .int .i64 (U:Nat)),(1, .pointer (some ⟨b1,0,none⟩)),(33,c.blocks.sv.val),(34, .int .i64 (c.blocks.xs.length:Nat))]) (fun U=>[al b1 (aS c) 59]) (fun U=>U<=c.blocks.xs.length/\ ∀j b,j<U->(hU c.blocks.xs)[j]? =Option.some b->oB c.ab c.size b=true) (fun U=>c.blocks.xs.length -U) 0 ⟨Nat.zero_le _,fun j b hj=>by first|omega|(simp only[];omega)⟩ sb (fun w hw=>ag.mem hw) ?_;rintro i ⟨bf,aF⟩;refine aj ?_;refine Gb ?_ ?_<;>intro h1
 ·
  refine kp ?_;obtain⟨x,hx⟩:=get_some (xs:=c.blocks.xs) (i:=i) oM;refine ae (aY rfl rfl i rfl oM) (ae (gq rfl i hx rfl) ?_);have ai1:Mb x c.blocks:=⟨List.mem_of_getElem? hx⟩;refine bc fun b4=>Lj ?_;refine Gb ?_ ?_<;>intro h2
  ·
   have hz:bl (cv c)=false:=by
    cases hk:bl (cv c)with
    |false=>rfl
    |true=>
     have g:=gF.1 ((cd.1 hk).2.2.2.2 (bv x) (amm (ly hx)));simp only[bv,mR]at g;omega
   refine aj ?_;refine Gr fun w1 hw=>?_;exact Ge (hz.symm) hw
  refine aQ ?_;refine bI (X:=Nat) (fun U=>[(70, .int .i64 (U:Nat)),(1, .pointer (some ⟨b1,0,none⟩)),(33,c.blocks.sv.val),(34, .int .i64 (c.blocks.xs.length:Nat)),(35, .int .i64 (i:Nat)),(68,x.ab.sv.val),(69, .int .i64 (x.ab.xs.length:Nat))]) (fun U=>[al b4 (bU x) 180,al b1 (aS c) 59]) (fun U=>U<=x.ab.xs.length/\ ∀k y,k<U->(bv x).ab[k]? =Option.some y->(y.length:Int)=c.size) (fun U=>x.ab.xs.length -U) 0 ⟨Nat.zero_le _,fun k y hk=>by first|omega|(simp only[];omega)⟩ sb (fun w hw=>ag.mem hw) ?_;rintro j ⟨jc,dk⟩;refine aj ?_;refine Gb ?_ ?_<;>intro h3
  ·
   refine kp ?_;obtain⟨y,hy⟩:=get_some (xs:=x.ab.xs) (i:=j) oM;refine ae (aY rfl rfl j rfl oM) (ae (bB (j:=0) rfl j hy rfl (by decide)) ?_);have ai2:Mb y _:=⟨List.mem_of_getElem? hy⟩;refine dV ?_;refine Gb ?_ ?_<;>intro h4
   ·
    have hz:bl (cv c)=false:=by
     cases hk:bl (cv c)with
     |false=>rfl
     |true=>
      have g:=(gF.1 ((cd.1 hk).2.2.2.2 (bv x) (amm (ly hx)))).2.2.2.2.2 y.xs (amm (oA hy));omega
    refine aj ?_;refine Gr fun w1 hw=>?_;exact Ge (hz.symm) hw
   refine aj ?_;refine Gi ?_;exact bg (x:=(j)) (j+1) ⟨oF,fun k z hk hz=>if e:k=j then(by subst e;rw[show(bv x).ab=aM x.ab.xs from rfl,oA hy]at hz;cases hz;omega)else dk k z oF hz⟩ oF sb (fun w hw=>ag.mem hw)
  have yq:oB c.ab c.size (bv x)=true:=gF.2 ⟨by simp only[bv,mR];omega,by simp only[bv];omega,by simp only[bv];omega,by simp only[bv];omega,by simp only[bv];omega,fun y hy=>by
   obtain⟨k,hk⟩:=am9 hy;exact dk k y (by have h:=(zz.1 hk).1;simp only[bv,mR]at h;omega) hk⟩
  refine aj ?_;refine Gi ?_;exact bg (x:=(i)) (i+1) ⟨oF,fun j b hj hb=>if e:j=i then(by subst e;rw[ly hx]at hb;cases hb;exact yq)else aF j b oF hb⟩ oF sb (fun w hw=>ag.mem hw)
 obtain rfl:i=c.blocks.xs.length:=by omega
 have hz:bl (cv c)=true:=cd.2 ⟨g0.1,g0.2.1,g0.2.2.1,g0.2.2.2,fun b hb=>by
  obtain⟨j,hj⟩:=am9 hb;exact aF j b (by have:=(zz.1 hj).1;omega) hj⟩
 refine aj ?_;refine Gr fun w1 hw=>?_;exact⟨congrArg (fun b=>Ending.returned (Value.bool b)) (hz.symm),ag.mem hw⟩⟩
theorem Zj{xs:List UInt8}{k i:Nat}(h:k+i<xs.length):(xs.take k++(List.replicate i 255++xs.drop (k+i))).set (k+i) 255=xs.take k++(List.replicate (i+1) 255++xs.drop (k+(i+1))):=by
 rw[anM _ _ (by rw[amo];omega),amo,aon oM,amV,anM _ _ (by simp),amZ,anZ,anJ h,anP,List.replicate_succ',ams,List.singleton_append,anz]
theorem Zk(w0 w:World)(L:List ah)(rm:Sv)(k:Nat)(n:Nat)(cap:Nat)(xs:List UInt8)(hw:Mem w0 (own aL 1 rm xs::L) w)(aw:k+n<=xs.length/\n<=1000000):Calls Tryz.prog 94 #[.slice (some ⟨rm.b,rm.o+k,none⟩) n cap] w fun e w'=> ∃U:Unit,e= .returned (.tuple #[])/\(True)/\Mem w0 (own aL 1 rm (xs.take k++(List.replicate n 255++xs.drop (k+n)))::L) w':=by
 obtain⟨lG,kV⟩:=aw;refine fI (args:=[_]) Tryz.func94 rfl Tryz.ntmps94 rfl hw ?_;change Cw _ _ _ _ _ [(0, .slice (some ⟨rm.b,rm.o+k,none⟩) n cap)] (own aL 1 rm xs::L);refine ao ?_;refine ae (vp rfl) (ao ?_);refine bI (X:=Nat×List UInt8) (fun U=>[(5, .int .i64 (U.1:Nat)),(0, .slice (some ⟨rm.b,rm.o+k,none⟩) n cap),(4, .int .i64 (n:Nat))]) (fun U=>own aL 1 rm U.2::L) (fun U=>U.1<=n/\U.2=xs.take k++(List.replicate U.1 255++xs.drop (k+U.1))) (fun U=>n -U.1) (0,xs) ⟨Nat.zero_le _,by simp⟩ sb (fun w hw=>ag.mem hw) ?_;rintro⟨i,zs⟩ ⟨bf,aF⟩;dsimp only;simp only at bf aF;have wP:zs.length=xs.length:=by rw[aF];simp only[List.length_append,List.length_take,List.length_replicate,List.length_drop];omega
 refine aj ?_;refine Gb ?_ ?_<;>intro h0
 ·
  refine aQ ?_;refine ae (Ju (b:=rm.b) (o:=rm.o+k) (len:=n) (cap:=cap) rfl rfl oM oM) ?_;obtain⟨z,hz⟩:=get_some (xs:=zs) (i:=k+i) oM;refine kj (s:=rm) (n:=1) (k:=k+i) (j:=0) (a:=z) (a':=(255:UInt8)) (xs:=zs) (enc:=aL) (c:=1) (v:= .int .u8 255) oK rfl rfl oM hz (by simp[Value.cells,Value.oneCell']) rfl oM (by rfl) (aj ?_);refine Gi ?_;exact bg (x:=(i,zs)) (i+1,zs.set (k+i) 255) ⟨oF,by rw[aF];exact Zj oF⟩ (by simp only;omega) sb (fun w hw=>ag.mem hw)
 obtain rfl:i=n:=by omega
 refine Gc ?_;refine cY (.inr rfl) (iJ rfl) (fun w1 hw=>?_);exact⟨(),rfl,trivial,by rw[←aF];exact ag.mem hw⟩
instance Zl{w0:World}{L L2:List ah}{i:Nat}{rm:Sv}{k:Nat}{n:Nat}{cap:Nat}{xs:List UInt8}[q:eS L rm aL 1 xs i][d1:bW L i L2]:bK Tryz.prog 94 w0 L [.slice (some ⟨rm.b,rm.o+k,none⟩) n cap] (Unit) (fun U=> .tuple #[]) (fun U=>own aL 1 rm (xs.take k++(List.replicate n 255++xs.drop (k+n)))::L2) (fun U=>True) (k+n<=xs.length/\n<=1000000):=⟨fun hp w hw=>Zk w0 w L2 rm k n cap xs (CB q.h d1.h hw) hp⟩
instance ai3{s:Sv}{ss:List Bk}[hs:cS w0 L bU 4 s ss]:bK Tryz.prog 162 w0 L [s.val] (Sv) (fun U=>U.val) (fun U=>own bU 4 U ss::L) (fun U=>True) (ss.length<=1000000):=⟨fun aw w hw=>Gk (fun U=>[own bU 4 U ss]) hw (by
 have hs:=hs.h w hw;have wG:Gv w s bU 4 ss:=⟨hs⟩;refine bQ Tryz.func162 rfl Tryz.ntmps162 rfl ?_;refine an ?_;refine ae (sL Tryz.underlying56 rfl) (Gc ?_);refine Gb ?_ ?_<;>intro h0
 ·
  have e0:ss=[]:=amB.1 (by have:=hs.ok.nil h0;have:=hs.len;omega);refine aj ?_;refine Gr fun w1 hw=>?_;exact⟨Sv.none,rfl,trivial,by rw[e0];exact(ag.mem hw:Mem w [] _).cJ bU 4⟩
 refine Gc ?_;refine uj bU fun b5=>Gs ?_;refine jY (s:=⟨false,b5,0,0,0,none⟩) (enc:=bU) (ys:=ss) rfl rfl (by decide) (fun w hw=>gP (s:=s) Tryz.underlying56 (by decide) ((inferInstance:cS _ _ bU 4 s ss).h w hw)) (by simp only[af0];omega) (by simp only[af0];omega) fun s7 wH uU=>?_;refine ao ?_;refine Gr fun w1 hw=>?_;exact⟨s7,rfl,trivial,by rw[am6]at hw;exact ag.mem hw⟩)⟩
instance ai4{s:Sv}{ss:List Ft}[hs:cS w0 L cO 4 s ss]:bK Tryz.prog 107 w0 L [s.val] (Sv) (fun U=>U.val) (fun U=>own cO 4 U ss::L) (fun U=>True) (ss.length<=1000000):=⟨fun aw w hw=>Gk (fun U=>[own cO 4 U ss]) hw (by
 have hs:=hs.h w hw;have wG:Gv w s cO 4 ss:=⟨hs⟩;refine bQ Tryz.func107 rfl Tryz.ntmps107 rfl ?_;refine an ?_;refine ae (sL Tryz.underlying57 rfl) (Gc ?_);refine Gb ?_ ?_<;>intro h0
 ·
  have e0:ss=[]:=amB.1 (by have:=hs.ok.nil h0;have:=hs.len;omega);refine aj ?_;refine Gr fun w1 hw=>?_;exact⟨Sv.none,rfl,trivial,by rw[e0];exact(ag.mem hw:Mem w [] _).cJ cO 4⟩
 refine Gc ?_;refine uj cO fun b5=>Gs ?_;refine jY (s:=⟨false,b5,0,0,0,none⟩) (enc:=cO) (ys:=ss) rfl rfl (by decide) (fun w hw=>gP (s:=s) Tryz.underlying57 (by decide) ((inferInstance:cS _ _ cO 4 s ss).h w hw)) (by simp only[af0];omega) (by simp only[af0];omega) fun s7 wH uU=>?_;refine ao ?_;refine Gr fun w1 hw=>?_;exact⟨s7,rfl,trivial,by rw[am6]at hw;exact ag.mem hw⟩)⟩
instance ai5{ps:Sl (Sl UInt8)}[AU:aU w0 L ps]:bK Tryz.prog 179 w0 L [ps.sv.val] (Sl (Sl UInt8)) (fun U=>U.sv.val) (fun U=>eA U::L) (fun U=>aM U.xs=aM ps.xs) (MA (aM ps.xs)):=⟨fun aw w hw=>Gk (fun U=>[eA U]) hw (by
 have AU:=AU.h w hw;have ai6:cw w ps:=⟨AU⟩;obtain⟨lG,kV⟩:=aw;have gA:=mR ps.xs;rw[gA]at lG;refine bQ Tryz.func179 rfl Tryz.ntmps179 rfl ?_;refine an ?_;refine ae (sL Tryz.underlying178 rfl) (Gc ?_);refine Gb ?_ ?_<;>intro h0
 ·
  have e0:ps.xs=[]:=amB.1 (by have:=AU.1.ok.nil h0;have:=AU.1.len;omega);refine aj ?_;refine Gr fun w1 hw=>?_;exact⟨⟨Sv.none,[]⟩,rfl,by rw[e0],Vz (Mem.cJ (bX (τ:=UInt8)) 1 (ag.mem hw:Mem w [] _))⟩
 refine ct ?_;refine bI (X:=Nat×Nat) (fun U=>[(15, .int .i64 (U.1:Nat)),(3, .int .i64 (U.2:Nat)),(0,ps.sv.val),(13,ps.sv.val),(14, .int .i64 (ps.xs.length:Nat))]) (fun U=>[]) (fun U=>U.1<=ps.xs.length/\U.2=((aM ps.xs).take U.1).flatten.length) (fun U=>ps.xs.length -U.1) (0,0) ⟨Nat.zero_le _,by simp⟩ sb (fun w hw=>ag.mem hw) ?_;rintro⟨i,mm⟩ ⟨bf,aF⟩;dsimp only;simp only at bf aF;refine aj ?_;refine Gb ?_ ?_<;>intro h1
 ·
  obtain⟨y,hy⟩:=get_some (xs:=ps.xs) (i:=i) oM;have Pb:Mb y ps:=⟨List.mem_of_getElem? hy⟩;have yK:=Ar (oA hy);have ic:=As (aM ps.xs) (i+1);refine Gc ?_;refine ae (aY rfl rfl i rfl oM) (ae (bB (j:=0) rfl i hy rfl (by decide)) ?_);have ai7:Mb y _:=⟨List.mem_of_getElem? hy⟩;refine nO ?_;refine Gi ?_;exact bg (x:=(i,mm)) (i+1,mm+y.xs.length) ⟨oF,by rw[aF,yK]⟩ (by simp only;omega) sb (fun w hw=>ag.mem hw)
 obtain rfl:i=ps.xs.length:=by omega
 rw[List.take_of_length_le oM]at aF;have hN:mm=(aM ps.xs).flatten.length:=aF;refine ao ?_;refine sJ (enc:=aL) (n:=0) (cap:=mm) 0 rfl rfl rfl rfl rfl oM oM oM fun u5=>an ?_;refine sJ (enc:=bX (τ:=UInt8)) (n:=ps.xs.length) (cap:=ps.xs.length) (⟨Sv.none,[]⟩:Sl UInt8) rfl rfl rfl rfl rfl oM oM oM fun wO=>aQ ?_;refine bI (X:=Nat×Nat×List UInt8×List (Sl UInt8)) (fun U=>[(31, .int .i64 (U.1:Nat)),(6,(⟨false,u5,0,U.2.1,mm,none⟩:Sv).val),(7,(⟨false,wO,0,ps.xs.length,ps.xs.length,none⟩:Sv).val),(29,ps.sv.val),(30, .int .i64 (ps.xs.length:Nat))]) (fun U=>[own aL 1 ⟨false,u5,0,U.2.1,mm,none⟩ U.2.2.1,own (bX (τ:=UInt8)) 1 ⟨false,wO,0,ps.xs.length,ps.xs.length,none⟩ U.2.2.2]) (fun U=>U.1<=ps.xs.length/\U.2.1=U.2.2.1.length/\U.2.2.1=((aM ps.xs).take U.1).flatten/\U.2.2.2=cT ⟨false,u5,0,mm,mm,none⟩ 0 ((aM ps.xs).take U.1)++List.replicate (ps.xs.length -U.1) (⟨Sv.none,[]⟩:Sl UInt8)) (fun U=>ps.xs.length -U.1) (0,0,List.replicate 0 0,List.replicate ps.xs.length (⟨Sv.none,[]⟩:Sl UInt8)) ⟨Nat.zero_le _,rfl,by simp,by simp[cT]⟩ sb (fun w hw=>ag.mem hw) ?_;rintro⟨i,m,r,zs⟩ ⟨bf,aF,bo,cI⟩;dsimp only;simp only at bf aF bo cI;refine aj ?_;refine Gb ?_ ?_<;>intro h2
 ·
  obtain⟨y,hy⟩:=get_some (xs:=ps.xs) (i:=i) oM;have Pb:Mb y ps:=⟨List.mem_of_getElem? hy⟩;have yK:=Ar (oA hy);have ic:=As (aM ps.xs) (i+1);have lI:r.length+y.xs.length<=mm:=by rw[hN,bo,←yK];exact ic
  have u6:=get_some (xs:=zs) (i:=i) (by rw[cI,adr,GJ,amo,amZ];omega);obtain⟨z,hz⟩:=u6;have wP:i<zs.length:=(zz.1 hz).1;refine ao ?_;refine ae (aY rfl rfl i rfl oM) (ae (bB (j:=0) rfl i hy rfl (by decide)) ?_);have ai8:Mb y _:=⟨List.mem_of_getElem? hy⟩;refine fS ?_;refine Vx (s:=⟨false,u5,0,m,mm,none⟩) (enc:=aL) (xs:=r) (ys:=y.xs) rfl rfl (fun w hw=>gP (s:=y.sv) Tryz.underlying53 (by decide) ((inferInstance:cS _ _ aL 1 y.sv y.xs).h w hw)) rfl (by simp only;omega) (by simp only;omega) ?_;refine nO ?_;refine ae (Ry.to (v':=(win (⟨false,u5,0,mm,mm,none⟩:Sv) r.length (r.length+y.xs.length)).val) (Mk (l:=r.length) (h:=(r++y.xs).length) (m:=(r++y.xs).length) rfl rfl rfl rfl rfl rfl rfl (by simp) (by simp) (by simp)) (by simp[win,Sv.sub,Sv.top])) (ae (aY rfl rfl i rfl oM) (Cb (s:=⟨false,wO,0,ps.xs.length,ps.xs.length,none⟩) (xs:=zs) (k:=i) (a:=z) (⟨(win (⟨false,u5,0,mm,mm,none⟩:Sv) r.length (r.length+y.xs.length)),y.xs⟩:Sl UInt8) oK rfl rfl oM hz (aj ?_)));refine Gi ?_;exact bg (x:=(i,m,r,zs)) (i+1,m+y.xs.length,r++y.xs,zs.set i ⟨(win (⟨false,u5,0,mm,mm,none⟩:Sv) r.length (r.length+y.xs.length)),y.xs⟩) ⟨oF,by rw[adr,aF],by rw[bo,amq,oA hy];simp,by rw[cI];exact VB (by rw[gA]) bo (oA hy)⟩ (by simp only;omega) sb (fun w hw=>ag.mem hw)
 obtain rfl:i=ps.xs.length:=by omega
 rw[amr oM]at bo cI;rw[anZ,List.replicate_zero,am4]at cI;refine an ?_;refine Gr fun w1 hw=>?_;exact⟨⟨⟨false,wO,0,ps.xs.length,ps.xs.length,none⟩,zs⟩,rfl,by rw[cI,uA],Mz (rm:=⟨false,u5,0,mm,mm,none⟩) cI rfl (by rw[show m=mm by rw[aF,bo,hN],bo]at hw;exact ag.mem hw)⟩)⟩
instance ai9{c:Cp}[hc:aU w0 L c]:bK Tryz.prog 105 w0 L [.agg (aS c)] (Cp) (fun U=> .agg (aS U)) (fun U=>own bU 4 U.blocks.sv U.blocks.xs::ah.all (U.blocks.xs.map fun b:Bk=>eA b.ab)::own cO 4 U.bb.sv U.bb.xs::L) (fun U=>cv U=cv c) (fe c):=⟨fun aw w hw=>Gk (fun U:Cp=>[own bU 4 U.blocks.sv U.blocks.xs,ah.all (U.blocks.xs.map fun b:Bk=>eA b.ab),own cO 4 U.bb.sv U.bb.xs]) hw (by
 have hc:=hc.h w hw;have jS:cw w c:=⟨hc⟩;obtain⟨lG,kV,oX⟩:=aw;refine bQ Tryz.func105 rfl Tryz.ntmps105 rfl ?_;refine Gc ?_;refine bJ rfl fun b1=>bc fun b2=>aj ?_;refine aW rfl oM fun x6 HQ=>Gs ?_;refine cR (cs':=aS (⟨c.ab,c.size,⟨x6,c.blocks.xs⟩,c.ops,c.off,c.bb⟩:Cp)) rfl rfl (by show 2<6;decide) (by first|rfl|exact Sv.one _) rfl (aQ ?_);refine bI (X:=Nat×List Bk) (fun U=>[(11, .int .i64 (U.1:Nat)),(1, .pointer (some ⟨b1,0,none⟩)),(2, .pointer (some ⟨b2,0,none⟩)),(10, .int .i64 (c.blocks.xs.length:Nat))]) (fun U=>[own bU 4 x6 U.2,ah.all ((U.2.take U.1).map fun b:Bk=>eA b.ab),al b2 (aS fL) 59,al b1 (aS (⟨c.ab,c.size,⟨x6,U.2⟩,c.ops,c.off,c.bb⟩:Cp)) 59]) (fun U=>U.1<=c.blocks.xs.length/\U.2.length=c.blocks.xs.length/\hU U.2=hU c.blocks.xs/\ ∀j,U.1<=j->U.2[j]? =c.blocks.xs[j]?) (fun U=>c.blocks.xs.length -U.1) (0,c.blocks.xs) ⟨Nat.zero_le _,rfl,rfl,fun _ _=>rfl⟩ sb (fun w hw=>by
  simp only[amL,anl];exact ag.mem (Mem.wb hw)) ?_
 rintro⟨i,zs⟩ ⟨bf,aF,bo,cI⟩;dsimp only;simp only at bf aF bo cI;refine aj ?_;refine Gb ?_ ?_<;>intro h0
 ·
  obtain⟨z,hz⟩:=get_some (xs:=zs) (i:=i) oM;have u7:Mb z c.blocks:=⟨List.mem_of_getElem? (by rw[←cI i (amz _)];exact hz)⟩;refine aj ?_;refine fb ?_;refine CQ (s:=x6) (enc:=bU) (c:=4) (xs:=zs) inferInstance oM fun hn6 hs6 Zm Zn=>?_;refine gB [9,12,1003,1004,1006,1007,1008,1010,1011] [[],[],[],[],[3],[],[3,4],[3,4,6],[3,4,6,7],[3,4,6,7,8],[3,4,6,7,8,9],[3,4,6,7,8,9,10],[3,4,6,7,8,9,10,11]] [0,1,2,3,4,5,6,7,8,9,10,11,12] [al b1 (aS (⟨c.ab,c.size,⟨x6,zs⟩,c.ops,c.off,c.bb⟩:Cp)) 59] (fun _ hw=>ag.mem hw) oK oK (ak rfl (aK (o':=2) rfl rfl) (ak rfl (bA rfl) (ak rfl (ba rfl) (fh rfl (aK (o':=2) rfl rfl) (fh rfl (bA rfl) (ak rfl (ba rfl) (fh rfl (aY rfl rfl i rfl oM) (fh rfl (aK rfl rfl) (fh rfl (bB (j:=0) rfl i hz rfl (by decide)) (cC rfl (nL rfl (oX z u7.h) fun k8 AV=>⟨fun _ hw=>ag.mem hw,?_⟩)))))))))));refine fh rfl (mC (s:=x6) (i:=i) rfl rfl rfl Zm oM) (fh rfl (aK rfl rfl) ?_);refine cC rfl (vX (n:=1) (k:=i) (j:=0) (a:=z) (a':=({z with ab:=k8}:Bk)) (xs:=zs) (enc:=bU) (c:=4) (v:=k8.sv.val) oK rfl rfl rfl hz (by rw[Sv.iC];simp[Sv.one]) (by rw[Sv.iC];rfl) (by decide) (by rw[Sv.iC];rfl) ⟨fun _ hw=>ag.mem hw,?_⟩)
  refine aj ?_;refine Gi ?_;exact bg (x:=(i,zs)) (i+1,zs.set i ({z with ab:=k8}:Bk)) ⟨oF,by rw[anb];exact aF,by rw[wg,←bo,show bv ({z with ab:=k8}:Bk)=bv z from by rw[bv,bv,AV],←wg,xX hz],fun j hj=>by rw[aog oF];exact cI j oF⟩ (by simp only;omega) sb (fun w hw=>by
   have h1:=Mem.xV (e:=eA k8) (es:=(zs.take i).map fun b:Bk=>eA b.ab) (ag.mem hw:Mem _ (eA k8::ah.all ((zs.take i).map fun b:Bk=>eA b.ab)::[own bU 4 x6 (zs.set i ({z with ab:=k8}:Bk)),al b2 (aS fL) 59,al b1 (aS (⟨c.ab,c.size,⟨x6,zs⟩,c.ops,c.off,c.bb⟩:Cp)) 59]) _)
   rw[VI (z':=({z with ab:=k8}:Bk)) hz]at h1
   exact(ag.mem h1:Mem _ [own bU 4 x6 (zs.set i ({z with ab:=k8}:Bk)),ah.all (((zs.set i ({z with ab:=k8}:Bk)).take (i+1)).map fun b:Bk=>eA b.ab),al b2 (aS fL) 59,al b1 (aS (⟨c.ab,c.size,⟨x6,zs⟩,c.ops,c.off,c.bb⟩:Cp)) 59] _))
 obtain rfl:i=zs.length:=by omega
 rw[amr (amz _)]at*;refine ao ?_;refine ae (Ry.to (v':=c.bb.sv.val) (bA rfl) rfl) (aW rfl oM fun yL H9=>Gs ?_);refine cR (cs':=aS (⟨c.ab,c.size,⟨x6,zs⟩,c.ops,c.off,⟨yL,c.bb.xs⟩⟩:Cp)) rfl rfl (by show 5<6;decide) (by first|rfl|exact Sv.one _) rfl (an ?_);refine Gr fun w1 hw=>?_;exact⟨⟨c.ab,c.size,⟨x6,zs⟩,c.ops,c.off,⟨yL,c.bb.xs⟩⟩,rfl,by simp only[cv,bo],ag.mem hw⟩)⟩
instance aja{c:Cp}{b:Int}[hc:aU w0 L c]:bD Tryz.prog 298 w0 L [.agg (aS c), .int .i64 b] (.bool (lz (cv c) b)) (True):=⟨fun aw w hw=>by
 have hc:=hc.h w hw;have jS:cw w c:=⟨hc⟩;refine cD Tryz.func298 rfl Tryz.ntmps298 rfl ?_;refine Gc ?_;refine bJ rfl fun b2=>Lg ?_;refine Gr fun w1 hw=>?_;exact⟨congrArg (fun b=>Ending.returned (Value.bool b)) ((by simp only[lz,cv,fT])),ag.mem hw⟩⟩
instance ajb{c:Cp}[hc:aU w0 L c]:bD Tryz.prog 299 w0 L [.agg (aS c)] (.tuple #[.agg (cO ((bS (cv c)).1)), .bool ((bS (cv c)).2)]) (c.bb.xs.length<=1000000):=⟨fun aw w hw=>by
 have hc:=hc.h w hw;have jS:cw w c:=⟨hc⟩;refine bQ Tryz.func299 rfl Tryz.ntmps299 rfl ?_;refine Gc ?_;refine bJ rfl fun b1=>bc fun b2=>ct ?_;refine bI (X:=Nat) (fun U=>[(9, .int .i64 (U:Nat)),(1, .pointer (some ⟨b1,0,none⟩)),(2, .pointer (some ⟨b2,0,none⟩)),(7,c.bb.sv.val),(8, .int .i64 (c.bb.xs.length:Nat))]) (fun U=>[al b2 (cO xR) 97,al b1 (aS c) 59]) (fun U=>U<=c.bb.xs.length/\ ∀j f,j<U->c.bb.xs[j]? =Option.some f->f.op≠c.ops) (fun U=>c.bb.xs.length -U) 0 ⟨Nat.zero_le _,fun j f hj=>by first|omega|(simp only[];omega)⟩ sb (fun w hw=>ag.mem hw) ?_;rintro i ⟨bf,aF⟩;refine aj ?_;refine Gb ?_ ?_<;>intro h0
 ·
  refine kp ?_;obtain⟨f,hf⟩:=get_some (xs:=c.bb.xs) (i:=i) oM;refine ae (aY rfl rfl i rfl oM) (ae (gq rfl i hf rfl) (bc fun b5=>dV ?_));refine Gb ?_ ?_<;>intro h1
  ·
   have hs:bS (cv c)=(f,f.cut||f.fail):=VK hf aF h1;refine Gi ?_;refine gB [7] [[],[],[],[],[],[],[],[],[7]] [0,1,2,3,4,5,6,7,8] [al b5 (cO f) 97,al b1 (aS c) 59] (fun _ hw=>ag.mem hw) oK oK (ak rfl (fu rfl) (ak rfl (aK (o':=2) rfl rfl) (ak rfl (bA rfl) (ak rfl (ba rfl) (Ld rfl rfl rfl rfl (fun hg=>(Ry.yl (aK (o':=1) rfl rfl))) (Ld rfl rfl rfl rfl (fun hg=>(Ry.yl (bA (au hg rfl)))) (ak rfl (w9 rfl rfl rfl) (cC rfl (lV rfl rfl ⟨fun _ hw=>ag.mem hw,?_⟩)))))))));refine ak rfl (fG rfl) (Gc ?_);refine Gr fun w1 hw=>?_;exact⟨(by rw[hs]),ag.mem hw⟩
  refine aj ?_;refine Gi ?_;exact bg (x:=(i)) (i+1) ⟨oF,fun j g hj hg=>if e:j=i then(by subst e;rw[hf]at hg;cases hg;exact h1)else aF j g oF hg⟩ oF sb (fun w hw=>ag.mem hw)
 obtain rfl:i=c.bb.xs.length:=by omega
 have hs:bS (cv c)=(xR,false):=VJ (fun f hf=>by
  obtain⟨j,hj⟩:=am9 hf;exact aF j f (zz.1 hj).1 hj)
 refine Gc ?_;refine ae (cr (v:= .agg (cO xR)) rfl (fun w=>by kernel_rfl)) (aj ?_);refine Gr fun w1 hw=>?_;exact⟨(by rw[hs]),ag.mem hw⟩⟩
instance ajc{f:Ft}:bD Tryz.prog 300 w0 L [.agg (cO f)] (.tuple #[.bool f.cut, .int .i64 (nR f)]) (True):=⟨fun aw w hw=>by
 refine bQ Tryz.func300 rfl Tryz.ntmps300 rfl ?_;refine Gc ?_;refine bJ rfl fun b1=>aQ ?_;refine Gb ?_ ?_<;>intro h0
 ·
  refine an ?_;refine Gr fun w1 hw=>?_;exact⟨(by rw[nR,if_pos h0,h0]),ag.mem hw⟩
 refine an ?_;refine Gr fun w1 hw=>?_;exact⟨(by rw[nR,if_neg (by rw[h0];simp),h0]),ag.mem hw⟩⟩
instance ajd{c:Cp}{b:Int}[hc:aU w0 L c]:bK Tryz.prog 301 w0 L [.agg (aS c), .int .i64 b] (Cp) (fun U=> .tuple #[.agg (aS U), .int .i64 (rB (cv c) b)]) (fun U=>fz U::L) (fun U=>cv U=qn (cv c) b) (fe c):=⟨fun aw w hw=>Gk (fun U=>[fz U]) hw (by
 have hc:=hc.h w hw;have jS:cw w c:=⟨hc⟩;have fY:fe c:=aw;obtain⟨lG,kV,oX⟩:=aw;refine cD Tryz.func301 rfl Tryz.ntmps301 rfl ?_;refine Gc ?_;refine bJ rfl fun b2=>bc fun b4=>aj ?_;refine aW rfl (by assumption) fun x8 nr=>bc fun b6=>ct ?_;refine Gb ?_ ?_<;>intro h0
 ·
  have hE:rB (cv c) b=1:=by rw[rB,if_neg (by rw[h0];simp)]
  refine aG ?_;refine Gr fun w1 hw=>?_;exact⟨x8,by rw[hE],by rw[nr,qn,if_neg (by rw[hE];decide)],mX x8 (ag.mem hw)⟩
 have hk:lz (cv c) b=true:=h0;have hh:=hk;have Pc:=(mS.1 hh).2;have dY:x8.blocks.xs.length=c.blocks.xs.length:=by have:=congrArg (fun v:CV=>v.blocks.length) nr;simpa only[cv,fT]using this
 have AW:x8.ops=c.ops:=congrArg CV.ops nr;have pL:(cv c).blocks.length=c.blocks.xs.length:=fT _;obtain⟨B,hB⟩:=get_some (xs:=x8.blocks.xs) (i:=b.toNat) oM;have mq:b.toNat<x8.blocks.xs.length:=(zz.1 hB).1;have dQ:bv B=aN (cv c) b:=by
  have h1:=C1 hh;have h2:=ly hB;rw[show hU x8.blocks.xs=(cv c).blocks from congrArg CV.blocks nr,h1]at h2;exact(amn h2).symm
 have fm:oB c.ab c.size (bv B)=true:=by rw[dQ];exact we hh
 obtain⟨o1,o2,o3,o4,o5,o6⟩:=gF.1 fm;have fO:=kt.1 (eB.1 (mS.1 hh).1).1;have AX:=(eB.1 (mS.1 hh).1).2.1;simp only[bv,cv]at o1 o2 o3 o4 o5 o6 fO AX;have Pd:=mR B.ab.xs;refine an ?_;refine Gb ?_ ?_<;>intro h1
 ·
  have hE:rB (cv c) b=7:=by rw[rB,if_pos hk,if_pos (show(cv c).off=true from h1)]
  refine aG ?_;refine Gr fun w1 hw=>?_;exact⟨x8,by rw[hE],by rw[nr,qn,if_neg (by rw[hE];decide)],mX x8 (ag.mem hw)⟩
 have hE:rB (cv c) b=0:=by rw[rB,if_pos hk,if_neg (by rw[show(cv c).off=false from h1];simp)]
 refine an ?_;refine ae (aY rfl rfl b.toNat oM mq) (ae (aK rfl rfl) (kj (s:=x8.blocks.sv) (n:=1) (k:=b.toNat) (j:=3) (a:=B) (a':=(⟨B.ab,B.used,B.bC,true⟩:Bk)) (xs:=x8.blocks.xs) (enc:=bU) (c:=4) (v:= .bool true) oK rfl rfl rfl hB (by simp[Value.cells,Value.oneCell']) (by rfl) (by decide) (by rfl) (aG ?_)));refine Gr fun w1 hw=>?_;exact⟨(⟨x8.ab,x8.size,⟨x8.blocks.sv,x8.blocks.xs.set b.toNat (⟨B.ab,B.used,B.bC,true⟩:Bk)⟩,x8.ops,x8.off,x8.bb⟩:Cp),by rw[hE];rfl,by rw[VR nr dQ,qn,if_pos hE],mX (⟨x8.ab,x8.size,⟨x8.blocks.sv,x8.blocks.xs.set b.toNat (⟨B.ab,B.used,B.bC,true⟩:Bk)⟩,x8.ops,x8.off,x8.bb⟩:Cp) (by
  simp only[VQ hB (B':=(⟨B.ab,B.used,B.bC,true⟩:Bk)) rfl];exact ag.mem hw)⟩)⟩
instance aje{c:Cp}{fs:Sv}{qI:List Ft}[hc:aU w0 L c][Ia:cS w0 L cO 4 fs qI]:bK Tryz.prog 42 w0 L [.agg (aS c),fs.val] (Cp) (fun U=> .tuple #[.agg (aS U), .int .i64 (lX (cv c) qI)]) (fun U=>fz U::L) (fun U=>cv U=oC (cv c) qI) (fe c):=⟨fun aw w hw=>Gk (fun U=>[fz U]) hw (by
 have hc:=hc.h w hw;have Ia:=Ia.h w hw;have jS:cw w c:=⟨hc⟩;have ajf:Gv w fs cO 4 qI:=⟨Ia⟩;have fY:fe c:=aw;obtain⟨lG,kV,oX⟩:=aw;refine cD Tryz.func42 rfl Tryz.ntmps42 rfl ?_;refine Gc ?_;refine bJ rfl fun b2=>bc fun b4=>aj ?_;refine aW rfl (by assumption) fun x8 nr=>bc fun b6=>ou ?_;refine Gb ?_ ?_<;>intro h0
 ·
  have hE:lX (cv c) qI=1:=by rw[lX,if_neg (fun h=>by rw[h.1]at h0;simp only[anG,false_or]at h0;omega)]
  refine aG ?_;refine Gr fun w1 hw=>?_;exact⟨x8,by rw[hE],by rw[nr,oC,if_neg (by rw[hE];decide)],mX x8 (ag.mem hw)⟩
 have hE:lX (cv c) qI=0:=by
  rw[lX,if_pos]
  cases hk:bl (cv c)with
  |false=>rw[hk]at h0;simp at h0
  |true=>exact⟨rfl,by rw[hk]at h0;simp only[anG,not_false_eq_true,true_and]at h0;omega⟩
 have dM:qI.length<=64:=by
  by_cases h9:bl (cv c)=true/\qI.length<=64
  ·
   exact h9.2
  rw[lX,if_neg h9]at hE;cases hE
 refine ao ?_;refine cR (cs':=aS (⟨x8.ab,x8.size,x8.blocks,x8.ops,false,x8.bb⟩:Cp)) rfl rfl (by show 4<6;decide) (by first|rfl|exact Sv.one _) rfl (ao ?_);refine aW rfl oM fun gz wQ=>Gs ?_;refine cR (cs':=aS (⟨x8.ab,x8.size,x8.blocks,x8.ops,false,⟨gz,qI⟩⟩:Cp)) rfl rfl (by show 5<6;decide) (by first|rfl|exact Sv.one _) rfl (aG ?_);refine Gr fun w1 hw=>?_;exact⟨(⟨x8.ab,x8.size,x8.blocks,x8.ops,false,⟨gz,qI⟩⟩:Cp),by rw[hE],by rw[oC,if_pos hE,←nr];rfl,mX (⟨x8.ab,x8.size,x8.blocks,x8.ops,false,⟨gz,qI⟩⟩:Cp) (ag.mem hw)⟩)⟩
end Go.Proofs.YtkggjjnhnjjokaaGreatDoor
