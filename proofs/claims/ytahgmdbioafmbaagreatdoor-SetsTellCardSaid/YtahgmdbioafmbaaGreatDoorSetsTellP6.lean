/-
  The texts that the law's proof needs, part 6.
-/
import Derived.Carry
import Derived.ChangeSame
import Derived.Deep.Slices
import Derived.Handed
import Derived.KernelRfl
import Derived.LaidHandle
import Derived.LaidLaws
import Derived.LaidMore
import Derived.Laws.BytesArg
import Derived.Lib.LaidTab
import Derived.OpenShut
import Derived.ProofKit
import Derived.RowKit
import Derived.SizedLaws
import Derived.Stop.LaidErr
import Derived.Test.YtahgmdbioafmbaaGreatDoorRows
import Derived.WalkKit
import Derived.WideKeyElems2
import Derived.Test.YtahgmdbioafmbaaGreatDoorSetsTellP5

namespace Go.Proofs.YtahgmdbioafmbaaGreatDoor.V
open Go
set_option linter.unusedVariables false
section
variable {α : Type}
theorem zit {A B:List α} {x:α} {i:Int} (h:i=(A.length:Int)):at? (A++x::B) i=some x:=by
 subst h;rw [zci];simp
theorem zie {A B:List α} {x y:α} {i:Int} (h:i=(A.length:Int)):(A++x::B).set i.toNat y=A++y::B:=by
 subst h;rw [Int.toNat_natCast]
 induction A with
 | nil=>rfl
 | cons a A ih=>simp only [List.length_cons,List.cons_append,List.set_cons_succ,ih]
def SEq (key:α→Int) (l l':List α):Prop:=∀c,l.filter (fun x=>key x==c)=l'.filter (fun x=>key x==c)
theorem SEq.refl (key:α→Int) (l:List α):SEq key l l:=fun _=>rfl
theorem SEq.trans {key:α→Int} {a b c:List α} (h:SEq key a b) (k:SEq key b c):SEq key a c:=fun x=>(h x).trans (k x)
theorem SEq.symm {key:α→Int} {a b:List α} (h:SEq key a b):SEq key b a:=fun x=>(h x).symm
theorem SEq.app {key:α→Int} {a b c d:List α} (h:SEq key a b) (k:SEq key c d):SEq key (a++c) (b++d):=fun x=>by rw [List.filter_append,List.filter_append,h x,k x]
theorem SEq.length {key:α→Int} {a b:List α} (h:SEq key a b):a.length=b.length:=by
 have hp:a.Perm b:=by
  classical
  refine List.perm_iff_count.2 fun x=>?_;have h1:∀l:List α,l.count x=(l.filter (fun y=>key y==key x)).count x:=fun l=>by
   rw [List.count_filter];simp
  rw [h1 a,h1 b,h (key x)]
 exact hp.length_eq
theorem SEq.perm {key:α→Int} {a b:List α} (h:SEq key a b):a.Perm b:=by
 classical
 refine List.perm_iff_count.2 fun x=>?_;have h1:∀l:List α,l.count x=(l.filter (fun y=>key y==key x)).count x:=fun l=>by
  rw [List.count_filter];simp
 rw [h1 a,h1 b,h (key x)]
theorem zjp {key:α→Int} {X Y:List α} (h:∀x∈X,∀y∈Y,key x≠key y):SEq key (X++Y) (Y++X):=fun c=>by
 rw [List.filter_append,List.filter_append]
 by_cases hx:X.filter (fun x=>key x==c)=[]
 ·rw [hx];simp
 ·have hy:Y.filter (fun x=>key x==c)=[]:=by
   rw [List.filter_eq_nil_iff];intro y hy hyc;obtain ⟨x,hxm⟩:=List.exists_mem_of_ne_nil _ hx;rw [List.mem_filter] at hxm;exact h x hxm.1 y hy (by rw [eq_of_beq hxm.2,eq_of_beq hyc])
  rw [hy];simp
def Srt (key:α→Int) (l:List α):Prop:=l.Pairwise fun x y=>key x≤key y
theorem Srt.app {key:α→Int} {a b:List α}:Srt key (a++b)↔Srt key a∧Srt key b∧∀x∈a,∀y∈b,key x≤key y:=List.pairwise_append
theorem Srt.cons {key:α→Int} {x:α} {b:List α}:Srt key (x::b)↔(∀y∈b,key x≤key y)∧Srt key b:=List.pairwise_cons
theorem srtc_uniq {key:α→Int}:∀{a b:List α},Srt key a→Srt key b→SEq key a b→a=b
 | [],b,_,_,h=>(List.eq_nil_of_length_eq_zero h.length.symm).symm
 | x::a,[],_,_,h=>absurd h.length (by simp)
 | x::a,y::b,ha,hb,h=>by
  obtain ⟨ha1,ha2⟩:=Srt.cons.1 ha;obtain ⟨hb1,hb2⟩:=Srt.cons.1 hb;have hp:=h.perm;have hxy:key x=key y:=by
   have h1:x∈y::b:=hp.mem_iff.1 (by simp);have h2:y∈x::a:=hp.mem_iff.2 (by simp);have e1:key y≤key x:=by
    rcases List.mem_cons.1 h1 with rfl | h1
    ·exact Int.le_refl _
    ·exact hb1 x h1
   have e2:key x≤key y:=by
    rcases List.mem_cons.1 h2 with rfl | h2
    ·exact Int.le_refl _
    ·exact ha1 y h2
   omega
  have h3:=h (key x);rw [List.filter_cons_of_pos (by simp),List.filter_cons_of_pos (by simp [hxy])] at h3;have e:=List.cons.inj h3;obtain ⟨rfl,_⟩:=e;refine congrArg _ (srtc_uniq ha2 hb2 fun c=>?_);have h4:=h c
  by_cases hc:key x=c
  ·rw [List.filter_cons_of_pos (by simp [hc]),List.filter_cons_of_pos (by simp [hc])] at h4;exact (List.cons.inj h4).2
  ·rw [List.filter_cons_of_neg (by simp [hc]),List.filter_cons_of_neg (by simp [hc])] at h4;exact h4
def srt (key:α→Int) (l:List α):List α:=l.mergeSort fun x y=>decide (key x≤key y)
theorem ziy (key:α→Int) (l:List α):Srt key (srt key l):=by
 have:=List.pairwise_mergeSort (le:=fun x y=>decide (key x≤key y)) (fun a b c h1 h2=>by simp at *;omega) (fun a b=>by simp;omega) l;exact this.imp fun h=>by simpa using h
theorem zgs (key:α→Int) (l:List α):SEq key l (srt key l):=fun c=>by
 have hp:(srt key l).Perm l:=List.mergeSort_perm l _;have hsub:(l.filter fun x=>key x==c).Sublist (srt key l):=by
  refine List.sublist_mergeSort (le:=fun x y=>decide (key x≤key y)) (fun a b c h1 h2=>by simp at *;omega) (fun a b=>by simp;omega) ?_ List.filter_sublist;refine List.Pairwise.imp_of_mem (R:=fun _ _=>True) ?_ (List.pairwise_of_forall fun _ _=>trivial);intro a b ha hb _;have h1:=(List.mem_filter.1 ha).2;have h2:=(List.mem_filter.1 hb).2;simp at h1 h2;simp;omega
 have h2:=hsub.filter (fun x=>key x==c);rw [List.filter_filter] at h2;simp only [Bool.and_self] at h2;exact h2.eq_of_length (hp.filter _).length_eq.symm
theorem zim {key:α→Int} {l q:List α} (hq:Srt key q) (h:SEq key l q):q=srt key l:=srtc_uniq hq (ziy key l) (h.symm.trans (zgs key l))
theorem zhi (key:α→Int) (l:List α):(srt key l).length=l.length:=(zgs key l).length.symm
theorem zf0 (l:List α) {n:Nat} (h:n≤l.length):∃A B,l=A++B∧A.length=n:=⟨l.take n,l.drop n,(List.take_append_drop n l).symm,by simp;omega⟩
theorem snoc_of {l:List α} (h:l≠[]):∃A x,l=A++[x]:=⟨l.dropLast,l.getLast h,(List.dropLast_concat_getLast h).symm⟩
end
theorem zgg {i j:Int} (h0:0≤i+j) (h1:i+j<9223372036854775808):IntKind.wrap .i64 (shrI (IntKind.wrap .u64 (i+j)) 1)=(i+j) / 2:=by
 rw [zmg,show (i+j) % 18446744073709551616=i+j by omega];have:shrI (i+j) 1=(i+j) / 2:=by
  unfold shrI;simp
 rw [this];simp [IntKind.wrap,IntKind.signed,IntKind.bits];omega
theorem bsearch {P:Nat→Int→Int→Prop} (pr:Nat→Bool) (lo hi:Nat) (hmono:∀c d,lo≤c→c≤d→d<hi→pr d=true→pr c=true)
  (hstep:∀k (i j:Nat),lo≤i→i<j→j≤hi→(pr ((i+j) / 2)=true→P k (((i+j) / 2+1:Nat):Int) (j:Int)→P (k+1) (i:Int) (j:Int))∧(pr ((i+j) / 2)=false→P k (i:Int) (((i+j) / 2:Nat):Int)→P (k+1) (i:Int) (j:Int)))
  (hexit:∀k (i:Nat),lo≤i→i≤hi→(∀c,lo≤c→c<i→pr c=true)→(∀c,i≤c→c<hi→pr c=false)→P (k+1) (i:Int) (i:Int)) (hle:lo≤hi):∃k,P k (lo:Int) (hi:Int):=by
 have key:∀(f i j:Nat),j-i≤f→lo≤i→i≤j→j≤hi→(∀c,lo≤c→c<i→pr c=true)→(∀c,j≤c→c<hi→pr c=false)→∃k,P k (i:Int) (j:Int):=by
  intro f
  induction f with
  | zero=>
   intro i j hf h1 h2 h3 h4 h5;have:i=j:=by omega
   subst this;exact ⟨1,hexit 0 i h1 h3 h4 h5⟩
  | succ f ih=>
   intro i j hf h1 h2 h3 h4 h5
   by_cases hij:i=j
   ·subst hij;exact ⟨1,hexit 0 i h1 h3 h4 h5⟩
   ·have hlt:i<j:=by omega
    cases hp:pr ((i+j) / 2)
    ·obtain ⟨k,hk⟩:=ih i ((i+j) / 2) (by omega) h1 (by omega) (by omega) h4 (fun c hc1 hc2=>by
      cases hpc:pr c
      ·rfl
      ·have:=hmono ((i+j) / 2) c (by omega) hc1 hc2 hpc;rw [this] at hp;cases hp)
     exact ⟨k+1,(hstep k i j h1 hlt h3).2 hp hk⟩
    ·obtain ⟨k,hk⟩:=ih ((i+j) / 2+1) j (by omega) (by omega) (by omega) h3 (fun c hc1 hc2=>hmono c ((i+j) / 2) hc1 (by omega) (by omega) hp) h5;exact ⟨k+1,(hstep k i j h1 hlt h3).1 hp hk⟩
 exact key (hi-lo) lo hi (Nat.le_refl _) (Nat.le_refl _) hle (Nat.le_refl _) (fun c h1 h2=>by omega) (fun c h1 h2=>by omega)
end Go.Proofs.YtahgmdbioafmbaaGreatDoor.V
namespace Go.Proofs.YtahgmdbioafmbaaGreatDoor.V
open Go
set_option linter.unusedVariables false
def lk0 (p:Cl):Int:=p.least.1
def zha (a p:Cl):List Cl:=[p &&& a,p &&& ~~~ a].filter fun q=>decide (0<q.count)
def zm0 (ps:List Cl) (a:Cl):List Cl:=srt lk0 (ps.flatMap (zha a))
def zg6 (l:List Cl):List Cl:=l.foldl zm0 [~~~ (0#256)]
def zm2 (l:List Cl):List Int:=(zg6 l).map lk0
def zgf (l:List Cl) (c d:Nat):Bool:=l.all fun a=>a.has c==a.has d
def part (l:List Cl) (c:Nat):Cl:=Cl.of (zgf l c)
def zf8 (l:List Cl):List Nat:=(List.range 256).filter fun c=>(List.range c).all fun d=>!zgf l d c
def parts (l:List Cl):List Cl:=(zf8 l).map (part l)
theorem znk (l:List Cl) (c:Nat):zgf l c c=true:=by simp [zgf]
theorem zk6 {l:List Cl} {c d:Nat} (h:zgf l c d=true):zgf l d c=true:=by
 unfold zgf at *;rw [List.all_eq_true] at *;intro a ha;have:=h a ha;rw [beq_iff_eq] at *;exact this.symm
theorem zh3 {l:List Cl} {c d e:Nat} (h:zgf l c d=true) (k:zgf l d e=true):zgf l c e=true:=by
 unfold zgf at *;rw [List.all_eq_true] at *;intro a ha;have h1:=h a ha;have h2:=k a ha;rw [beq_iff_eq] at *;exact h1.trans h2
theorem ze0 {l:List Cl} {c d:Nat} (h:d<256):(part l c).has d=zgf l c d:=Cl.of_has _ h
theorem zgx {l:List Cl} {c:Nat}:c∈zf8 l↔c<256∧∀d,d<c→zgf l d c=false:=by
 simp [zf8]
theorem part_eq {l:List Cl} {c d:Nat} (h:zgf l c d=true):part l c=part l d:=by
 apply Cl.ext;intro e he;rw [ze0 he,ze0 he];cases h1:zgf l d e
 ·cases h2:zgf l c e
  ·rfl
  ·rw [zh3 (zk6 h) h2] at h1;cases h1
 ·exact zh3 h h1
theorem zqd {p:Cl} (h:0<p.count):∃n:Nat,n<256∧p.least=((n:Int),true)∧p.has n=true∧∀m,m<n→p.has m=false:=by
 cases hl:p.least.2
 ·have h0:=least_none hl;have:p.count=0:=by
   unfold Cl.count;rw [List.countP_eq_zero];intro m hm;rw [h0 m (by simpa using hm)];simp
  omega
 ·obtain ⟨n,hn⟩:∃n:Nat,p.least=((n:Int),true):=by
   unfold Cl.least at hl ⊢;split
   ·exact ⟨_,rfl⟩
   ·rename_i hn;rw [hn] at hl;simp at hl
  obtain ⟨h1,h2,h3⟩:=least_some hn;exact ⟨n,h1,hn,h2,h3⟩
theorem count_pos {p:Cl} {n:Nat} (hn:n<256) (h:p.has n=true):0<p.count:=by
 unfold Cl.count;rw [List.countP_pos_iff];exact ⟨n,by simpa using hn,h⟩
theorem head_of {l:List Cl} {c:Nat} (hc:c<256):∃h,h∈zf8 l∧h≤c∧zgf l h c=true:=by
 obtain ⟨h,⟨h1,h2⟩,h3⟩:=exists_least (p:=fun d=>d≤c∧zgf l d c=true) ⟨c,Nat.le_refl _,znk l c⟩;refine ⟨h,zgx.2 ⟨by omega,fun d hd=>?_⟩,h1,h2⟩;cases hl:zgf l d h
 ·rfl
 ·have:=h3 d ⟨by omega,zh3 hl h2⟩;omega
theorem least_part {l:List Cl} {h:Nat} (hh:h∈zf8 l):(part l h).least=((h:Int),true):=by
 obtain ⟨h1,h2⟩:=zgx.1 hh;refine least_of h1 (by rw [ze0 h1];exact znk l h) fun m hm=>?_;rw [ze0 (by omega)];cases hl:zgf l h m
 ·rfl
 ·have:=h2 m hm;rw [zk6 hl] at this;cases this
theorem lk_part {l:List Cl} {h:Nat} (hh:h∈zf8 l):lk0 (part l h)=(h:Int):=by rw [lk0,least_part hh]
theorem zl6 (l:List Cl):(zf8 l).Pairwise (· < ·):=(List.pairwise_lt_range).filter _
theorem parts_lk (l:List Cl):(parts l).map lk0=(zf8 l).map (fun n:Nat=>(n:Int)):=by
 unfold parts;rw [List.map_map];exact List.map_congr_left fun h hh=>lk_part hh
theorem parts_srt (l:List Cl):Srt lk0 (parts l):=by
 have h1:(zf8 l).Pairwise fun a b=>lk0 (part l a)≤lk0 (part l b):=by
  refine (List.pairwise_iff_getElem.2 fun i j hi hj hij=>?_);rw [lk_part (List.getElem_mem hi),lk_part (List.getElem_mem hj)];have:=List.pairwise_iff_getElem.1 (zl6 l) i j hi hj hij;omega
 exact List.pairwise_map.2 h1
theorem seq_of_mem {α:Type} {key:α→Int} {X Y:List α} (hX:(X.map key).Nodup) (hY:(Y.map key).Nodup) (h:∀x,x∈X↔x∈Y):SEq key X Y:=fun c=>by
 have one:∀{Z:List α},(Z.map key).Nodup→∀x∈Z,key x=c→Z.filter (fun z=>key z==c)=[x]:=by
  intro Z
  induction Z with
  | nil=>intro _ x hx;cases hx
  | cons z Z ih=>
   intro hn x hx hk;rw [List.map_cons,List.nodup_cons] at hn;rcases List.mem_cons.1 hx with rfl | hx
   ·rw [List.filter_cons_of_pos (by simp [hk])]
    congr 1
    rw [List.filter_eq_nil_iff];intro y hy hyc;exact hn.1 (List.mem_map.2 ⟨y,hy,by rw [hk];simpa using hyc⟩)
   ·rw [List.filter_cons_of_neg,ih hn.2 x hx hk];intro hz;exact hn.1 (List.mem_map.2 ⟨x,hx,by rw [hk];simpa using (eq_of_beq hz).symm⟩)
 by_cases hex:∃x,x∈X∧key x=c
 ·obtain ⟨x,hx,hk⟩:=hex;rw [one hX x hx hk,one hY x ((h x).1 hx) hk]
 ·have e1:X.filter (fun z=>key z==c)=[]:=by
   rw [List.filter_eq_nil_iff];intro y hy hyc;exact hex ⟨y,hy,by simpa using hyc⟩
  have e2:Y.filter (fun z=>key z==c)=[]:=by
   rw [List.filter_eq_nil_iff];intro y hy hyc;exact hex ⟨y,(h y).2 hy,by simpa using hyc⟩
  rw [e1,e2]
def Disj (p q:Cl):Prop:=∀n,n<256→p.has n=true→q.has n=false
theorem lk_ne {p q:Cl} (hp:0<p.count) (hq:0<q.count) (h:Disj p q):lk0 p≠lk0 q:=by
 obtain ⟨n,n1,n2,n3,n4⟩:=zqd hp;obtain ⟨m,m1,m2,m3,m4⟩:=zqd hq;unfold lk0;rw [n2,m2];intro he;have:n=m:=by simp at he;omega
 subst this;rw [h n n1 n3] at m3;cases m3
theorem nodup_lk {X:List Cl} (hd:X.Pairwise Disj) (hc:∀x∈X,0<x.count):(X.map lk0).Nodup:=by
 refine List.pairwise_map.2 ?_;refine hd.imp_of_mem fun {a b} ha hb h=>lk_ne (hc a ha) (hc b hb) h
theorem zh2 {a p x:Cl}:x∈zha a p↔(x=p &&& a∨x=p &&& ~~~ a)∧0<x.count:=by
 simp [zha]
theorem znb {a p x:Cl} (h:x∈zha a p) {n:Nat} (hx:x.has n=true):p.has n=true:=by
 rcases (zh2.1 h).1 with rfl | rfl <;> rw [zkl] at hx <;> simp at hx <;> exact hx.1
theorem pieces_disj (a p:Cl):(zha a p).Pairwise Disj:=by
 unfold zha;refine List.Pairwise.filter _ ?_;simp only [List.pairwise_cons,List.mem_singleton,forall_eq,List.not_mem_nil,false_implies,implies_true,List.Pairwise.nil,and_true];intro n hn h;rw [zkl] at h ⊢;rw [znp hn];simp at h ⊢;simp [h.2]
theorem zow (l:List Cl):(parts l).Pairwise Disj:=by
 unfold parts;refine List.pairwise_map.2 ?_;refine List.pairwise_iff_getElem.2 fun i j hi hj hij n hn h=>?_;have hlt:=List.pairwise_iff_getElem.1 (zl6 l) i j hi hj hij;obtain ⟨_,h2⟩:=zgx.1 (List.getElem_mem hj);rw [ze0 hn] at h ⊢;cases h3:zgf l (zf8 l)[j] n
 ·rfl
 ·have:=h2 _ hlt;rw [zh3 h (zk6 h3)] at this;cases this
theorem parts_pos {l:List Cl} {p:Cl} (h:p∈parts l):0<p.count:=by
 obtain ⟨c,hc,rfl⟩:=List.mem_map.1 h;have h1:=(zgx.1 hc).1;exact count_pos h1 (by rw [ze0 h1];exact znk l c)
theorem flat_disj {ps:List Cl} (h:ps.Pairwise Disj) (a:Cl):(ps.flatMap (zha a)).Pairwise Disj:=by
 rw [List.pairwise_flatMap];refine ⟨fun p _=>pieces_disj a p,h.imp fun {p q} hpq x hx y hy n hn hxn=>?_⟩;cases hy':y.has n
 ·rfl
 ·have:=hpq n hn (znb hx hxn);rw [znb hy hy'] at this;cases this
theorem like_snoc (l:List Cl) (a:Cl) (c d:Nat):zgf (l++[a]) c d=(zgf l c d&&(a.has c==a.has d)):=by simp [zgf]
theorem mem_split (l:List Cl) (a x:Cl):x∈(parts l).flatMap (zha a)↔x∈parts (l++[a]):=by
 have key:∀h h':Nat,zgf l h h'=true→h' < 256→∀x:Cl,(a.has h'=true∧x=part l h &&& a∨a.has h'=false∧x=part l h &&& ~~~ a)→x=part (l++[a]) h':=by
  intro h h' hh h1 x hx;apply Cl.ext;intro d hd;rw [ze0 hd,like_snoc];have e:zgf l h' d=zgf l h d:=by
   have:=congrArg (fun p:Cl=>p.has d) (part_eq hh);simp only [ze0 hd] at this;exact this.symm
  rw [e];rcases hx with ⟨h2,rfl⟩ | ⟨h2,rfl⟩
  ·rw [zkl,ze0 hd,h2];cases a.has d <;> simp
  ·rw [zkl,znp hd,ze0 hd,h2];cases a.has d <;> simp
 constructor
 ·intro hx;obtain ⟨p,hp,hxp⟩:=List.mem_flatMap.1 hx;obtain ⟨h,hh,rfl⟩:=List.mem_map.1 hp;obtain ⟨hx1,hx2⟩:=zh2.1 hxp;obtain ⟨n,n1,n2,n3,n4⟩:=zqd hx2;have hn:=znb hxp n3;rw [ze0 n1] at hn;have hxe:x=part (l++[a]) n:=key h n hn n1 x (by
   rcases hx1 with rfl | rfl
   ·rw [zkl] at n3;simp at n3;exact .inl ⟨n3.2,rfl⟩
   ·rw [zkl,znp n1] at n3;simp at n3;exact .inr ⟨n3.2,rfl⟩)
  refine List.mem_map.2 ⟨n,zgx.2 ⟨n1,fun d hd=>?_⟩,hxe.symm⟩;cases hl:zgf (l++[a]) d n
  ·rfl
  ·have:=n4 d hd;rw [hxe,ze0 (by omega),zk6 hl] at this;cases this
 ·intro hx;obtain ⟨n,hn,rfl⟩:=List.mem_map.1 hx;have n1:=(zgx.1 hn).1;obtain ⟨h,hh,_,h3⟩:=head_of (l:=l) n1;have hpos:=parts_pos hx;cases ha:a.has n
  ·have e:=key h n h3 n1 _ (.inr ⟨ha,rfl⟩);exact List.mem_flatMap.2 ⟨_,List.mem_map.2 ⟨h,hh,rfl⟩,zh2.2 ⟨.inr e.symm,hpos⟩⟩
  ·have e:=key h n h3 n1 _ (.inl ⟨ha,rfl⟩);exact List.mem_flatMap.2 ⟨_,List.mem_map.2 ⟨h,hh,rfl⟩,zh2.2 ⟨.inl e.symm,hpos⟩⟩
theorem splitR_parts (l:List Cl) (a:Cl):zm0 (parts l) a=parts (l++[a]):=by
 unfold zm0;refine (zim (parts_srt _) (seq_of_mem ?_ ?_ (mem_split l a))).symm
 ·exact nodup_lk (flat_disj (zow l) a) fun x hx=>by
   obtain ⟨p,_,hxp⟩:=List.mem_flatMap.1 hx;exact (zh2.1 hxp).2
 ·exact nodup_lk (zow _) fun x hx=>parts_pos hx
theorem parts_nil:parts []=[~~~ (0#256)]:=by
 have h:zf8 []=[0]:=by decide +kernel
 unfold parts;rw [h];simp only [List.map_cons,List.map_nil,List.cons.injEq,and_true];apply Cl.ext;intro c hc;rw [ze0 hc,znp hc,has_zero];rfl
theorem splitP_eq (l:List Cl):zg6 l=parts l:=by
 have:∀(l pre:List Cl),l.foldl zm0 (parts pre)=parts (pre++l):=by
  intro l
  induction l with
  | nil=>intro pre;simp
  | cons a l ih=>intro pre;rw [List.foldl_cons,splitR_parts,ih];simp
 have:=this l [];rw [parts_nil] at this;simpa [zg6] using this
theorem heads_len (l:List Cl):(zf8 l).length≤256:=by
 have:=List.length_filter_le (fun c=>(List.range c).all fun d=>!zgf l d c) (List.range 256);simpa [zf8] using this
theorem zkq (l:List Cl):zm2 l=(zf8 l).map (fun n:Nat=>(n:Int)):=by rw [zm2,splitP_eq,parts_lk]
abbrev Rs (l:List (List SItem)):Prop:=l.Pairwise (fun a b=>ze3 a b<0)
def insS (t:List SItem):List (List SItem)→List (List SItem)
 | []=>[t]
 | c::l=>if ze3 t c<0 then t::c::l else if ze3 t c=0 then c::l else c::insS t l
def zhx (L:List (List SItem)):List (List SItem):=L.foldr insS []
theorem zqn {t u:List SItem}:∀{l:List (List SItem)},u∈insS t l↔u=t∨u∈l
 | []=>by simp [insS]
 | c::l=>by
  unfold insS;split
  ·simp
  ·split
   ·rename_i h
    rw [zen.1 h];simp
   ·rw [List.mem_cons,zqn,List.mem_cons];constructor
    ·rintro (h | h | h)
     ·exact .inr (.inl h)
     ·exact .inl h
     ·exact .inr (.inr h)
    ·rintro (h | h | h)
     ·exact .inr (.inl h)
     ·exact .inl h
     ·exact .inr (.inr h)
theorem insS_srt {t:List SItem}:∀{l:List (List SItem)},Rs l→Rs (insS t l)
 | [],_=>by simp [insS]
 | c::l,h=>by
  unfold insS;have h':=List.pairwise_cons.1 h;split
  ·rename_i h1
   exact List.pairwise_cons.2 ⟨fun x hx=>(List.mem_cons.1 hx).elim (fun e=>by rw [e];exact h1) fun hx=>zfy h1 (h'.1 x hx),h⟩
  ·split
   ·exact h
   ·rename_i h1 h2
    have h3:ze3 c t<0:=by
     have:=zga t c;omega
    refine List.pairwise_cons.2 ⟨fun x hx=>?_,insS_srt h'.2⟩;rcases zqn.1 hx with rfl | hx
    ·exact h3
    ·exact h'.1 x hx
theorem zdy {u:List SItem}:∀{L:List (List SItem)},u∈zhx L↔u∈L
 | []=>by simp [zhx]
 | t::L=>by
  show u∈insS t (zhx L)↔_;rw [zqn,zdy,List.mem_cons]
theorem zf5:∀L:List (List SItem),Rs (zhx L)
 | []=>List.Pairwise.nil
 | t::L=>insS_srt (zf5 L)
theorem rs_nodup {l:List (List SItem)} (h:Rs l):l.Nodup:=h.imp fun {a b} h e=>by subst e;exact zhf h
theorem rs_uniq {a b:List (List SItem)} (ha:Rs a) (hb:Rs b) (h:∀x,x∈a↔x∈b):a=b:=by
 have:=zkp (B:=a.map fun t=>((t,0):SBranch)) (C:=b.map fun t=>((t,0):SBranch)) (List.pairwise_map.2 ha) (List.pairwise_map.2 hb) fun x=>by
  simp only [List.mem_map];constructor
  ·rintro ⟨t,ht,rfl⟩;exact ⟨t,(h t).1 ht,rfl⟩
  ·rintro ⟨t,ht,rfl⟩;exact ⟨t,(h t).2 ht,rfl⟩
 have h2:=congrArg (List.map (·.1)) this;simpa [List.map_map,Function.comp_def] using h2
theorem zkt {A K:List (List SItem)} (h:∀x∈A,x∈K):(zhx A).length≤K.length:=zki (rs_nodup (zf5 A)) fun t ht=>h t (zdy.1 ht)
theorem can_set {f:List SItem→Nat} {B:List SBranch} (h:Can f B) {A:List (List SItem)} (e:∀t,f t≠0↔t∈A):B.map (·.1)=zhx A:=by
 refine rs_uniq ?_ (zf5 A) fun t=>by rw [h.keys,e,zdy]
 exact List.pairwise_map.2 h.srt
def onS (d:List SNode) (c:Int) (l:List (List SItem)):List (List SItem):=zhx (l.flatMap (zei d c))
def endS (d:List SNode) (l:List (List SItem)):Bool:=l.any fun s=>decide ((hds d s).count []≠0)
abbrev stS (d:List SNode):List SItem:=[(1,(d.length:Int)-1,0,0)]
def zmr (d:List SNode) (w:List Int):List (List SItem):=w.foldl (fun l c=>onS d c l) [stS d]
theorem zmq (d:List SNode):zmr d []=[stS d]:=rfl
theorem zjf (d:List SNode) (w:List Int) (c:Int):zmr d (w++[c])=onS d c (zmr d w):=by unfold zmr;rw [List.foldl_append];rfl
theorem zlp {d:List SNode} {c:Int} {l:List (List SItem)} {t:List SItem}:t∈onS d c l↔∃s∈l,t∈zei d c s:=by unfold onS;rw [zdy,List.mem_flatMap]
theorem word_ind {p:List Int→Prop} (h0:p []) (hs:∀w c,p w→p (w++[c])) (w:List Int):p w:=by
 have:∀n (w:List Int),w.length=n→p w:=by
  intro n
  induction n with
  | zero=>intro w hw;rw [List.length_eq_zero_iff.1 hw];exact h0
  | succ n ih=>
   intro w hw;have hne:w≠[]:=fun e=>by subst e;simp at hw
   rw [← List.dropLast_concat_getLast hne];exact hs _ _ (ih _ (by simp [hw]))
 exact this _ w rfl
theorem zqx {d:List SNode} {t:List SItem} (w:List Int):t∈zmr d w↔t∈zdz d w (stS d):=by
 revert t
 refine word_ind (p:=fun w=>∀{t:List SItem},t∈zmr d w↔t∈zdz d w (stS d)) ?_ ?_ w
 ·intro t;rw [zmq,zdz]
 ·intro w c ih t;rw [zjf,zlp,zo2,List.mem_flatMap];constructor
  ·rintro ⟨s,h1,h2⟩;exact ⟨s,ih.1 h1,h2⟩
  ·rintro ⟨s,h1,h2⟩;exact ⟨s,ih.2 h1,h2⟩
theorem aftS_srt (d:List SNode) (w:List Int):Rs (zmr d w):=by
 refine word_ind (p:=fun w=>Rs (zmr d w)) ?_ (fun w c _=>?_) w
 ·rw [zmq];simp
 ·rw [zjf];exact zf5 _
theorem aftS_set (d:List SNode) (w:List Int):zmr d w=zhx (zdz d w (stS d)):=rs_uniq (aftS_srt d w) (zf5 _) fun t=>by rw [zqx,zdy]
theorem aftS_sm {d:List SNode} (h:Rt d) (hl:d.length≤24) (ht:Txt d) {w:List Int} (hw:∀c∈w,InR .u8 c) {u:List SItem} (hu:u∈zmr d w):Sm d u∧u.length≤24:=after_sm h hl ht hw ((zqx w).1 hu)
theorem aftS_len {d:List SNode} (h:Rt d) {w:List Int} (hw:∀c∈w,InR .u8 c):(zmr d w).length≤pas d.length w.length:=by
 obtain ⟨K,k1,k2⟩:=after_cov h fun c hc=>(zjb.1 (hw c hc)).1;rw [aftS_set];exact Nat.le_trans (zkt k2) k1
def canB (d:List SNode) (s:List SItem):List SBranch:=(zhx (hds d s)).map fun t=>(t,sat ((hds d s).count t))
theorem canB_can (d:List SNode) (s:List SItem):Can (fun t=>(hds d s).count t) (canB d s):=by
 refine ⟨List.pairwise_map.2 (zf5 _),fun t m=>?_⟩;unfold canB;simp only [List.mem_map,Prod.mk.injEq];constructor
 ·rintro ⟨u,h1,rfl,h2⟩;have:=List.count_pos_iff.2 (zdy.1 h1);exact ⟨by omega,h2.symm⟩
 ·rintro ⟨h1,h2⟩;exact ⟨t,zdy.2 (List.count_pos_iff.1 (by omega)),rfl,h2.symm⟩
def clsA (d:List SNode) (s:List SItem):List Cl:=zl7 d (canB d s)
def zis (d:List SNode) (l:List (List SItem)):List Cl:=l.flatMap (clsA d)
theorem clsA_in {d:List SNode} {s:List SItem} (h:Sm d s):zbl d s (clsA d s)∧zy d s (clsA d s)∧(clsA d s).length≤256*10001:=by
 obtain ⟨B,b1,b2,b3⟩:=classes_both h;have e:=b1.uniq (canB_can d s);subst e;have:=zmn d (canB d s);have:=(h.hok b1).few;exact ⟨b2,b3,by unfold clsA;omega⟩
def zd1 (l:List Cl):List Cl:=l.foldl (fun o a=>if a∈o then o else o++[a]) []
theorem zfs (l:List Cl) (a:Cl):zd1 (l++[a])=if a∈zd1 l then zd1 l else zd1 l++[a]:=by unfold zd1;rw [List.foldl_append];rfl
theorem cl_ind {p:List Cl→Prop} (h0:p []) (hs:∀w c,p w→p (w++[c])) (w:List Cl):p w:=by
 have:∀n (w:List Cl),w.length=n→p w:=by
  intro n
  induction n with
  | zero=>intro w hw;rw [List.length_eq_zero_iff.1 hw];exact h0
  | succ n ih=>
   intro w hw;have hne:w≠[]:=fun e=>by subst e;simp at hw
   rw [← List.dropLast_concat_getLast hne];exact hs _ _ (ih _ (by simp [hw]))
 exact this _ w rfl
theorem zgw {x:Cl} (l:List Cl):x∈zd1 l↔x∈l:=by
 refine cl_ind (p:=fun l=>x∈zd1 l↔x∈l) (by simp [zd1]) (fun l a ih=>?_) l;rw [zfs]
 by_cases h:a∈zd1 l
 ·rw [if_pos h,List.mem_append,ih,List.mem_singleton];constructor
  ·exact .inl
  ·rintro (h1 | rfl)
   ·exact h1
   ·exact ih.1 h
 ·rw [if_neg h,List.mem_append,List.mem_append,ih]
theorem znc (l:List Cl):(zd1 l).Nodup:=by
 refine cl_ind (p:=fun l=>(zd1 l).Nodup) (by simp [zd1]) (fun l a ih=>?_) l;rw [zfs];split
 ·exact ih
 ·rename_i h
  rw [List.nodup_append];exact ⟨ih,by simp,fun x hx y hy e=>by rw [List.mem_singleton.1 hy] at e;subst e;exact h hx⟩
theorem znd (l:List Cl):(zd1 l).length≤l.length:=by
 refine cl_ind (p:=fun l=>(zd1 l).length≤l.length) (by simp [zd1]) (fun l a ih=>?_) l;rw [zfs];split <;> simp <;> omega
theorem like_mem {l m:List Cl} (h:∀x,x∈l↔x∈m) (c e:Nat):zgf l c e=zgf m c e:=by
 unfold zgf;rw [Bool.eq_iff_iff,List.all_eq_true,List.all_eq_true];exact ⟨fun k x hx=>k x ((h x).2 hx),fun k x hx=>k x ((h x).1 hx)⟩
theorem splitH_mem {l m:List Cl} (h:∀x,x∈l↔x∈m):zm2 l=zm2 m:=by
 rw [zkq,zkq];have:zf8 l=zf8 m:=by
  unfold zf8;refine List.filter_congr fun c _=>?_
  congr 1
  funext d;rw [like_mem h]
 rw [this]
def bytC (l:List Cl):List Int:=zm2 (zd1 l)
def bytS (d:List SNode) (l:List (List SItem)):List Int:=bytC (zis d l)
theorem bytC_eq (l:List Cl):bytC l=(zf8 l).map fun n:Nat=>(n:Int):=by
 unfold bytC;rw [splitH_mem (m:=l) fun x=>zgw l,zkq]
theorem bytC_len (l:List Cl):(bytC l).length≤256:=by rw [bytC_eq,List.length_map];exact heads_len l
theorem zhs {a:Cl}:zcg a a.least:=by
 refine zg1 (P:=fun k (_:Unit) v=>zcg.l1 a a.least _ k v) 256 (fun i _=>∀m,m<i→a.has m=false) ?_ ?_ () (by intro m hm;omega)
 ·intro i s hi hs;cases hc:a.has i
  ·refine .inr ⟨(),fun m hm=>?_,fun k h=>⟨fun _=>⟨a.has i,zil hi,fun h2=>by simp [hc] at h2,fun _=>⟨zn (by omega) (by omega),h⟩⟩,fun h=>absurd (by omega) (df h)⟩⟩
   by_cases e:m=i
   ·subst e;exact hc
   ·exact hs m (by omega)
  ·refine .inl fun k=>⟨fun _=>⟨a.has i,zil hi,fun _=>?_,fun h2=>by simp [hc] at h2⟩,fun h=>absurd (by omega) (df h)⟩;rw [show ((i:Int) % 256)=i by omega];exact least_of hi hc hs
 ·intro s hs k;exact ⟨fun h=>absurd (dt h) (by omega),fun _=>by first | exact zih hs | (show zcg.j1 _ _;exact zih hs)⟩
theorem zon {a:Cl}:zcm a (a.count:Int):=by
 refine zg1 (P:=fun k (s:Int) v=>zcm.l1 a _ k s v) 256 (fun i s=>s=(((List.range i).countP a.has:Nat):Int)) ?_ ?_ _ (by simp)
 ·rintro i s hi rfl;have hle:=List.countP_le_length (l:=List.range i) (p:=a.has);simp only [List.length_range] at hle;refine .inr ⟨_,rfl,fun k h=>⟨fun _=>⟨a.has i,zil hi,fun hc=>?_,fun hc=>?_⟩,fun h=>absurd (by omega) (df h)⟩⟩
  ·rw [List.range_succ,List.countP_append,List.countP_singleton,hc] at h;exact ⟨zn (by omega) (by omega),zn (by omega) (by omega),by simpa using h⟩
  ·rw [List.range_succ,List.countP_append,List.countP_singleton,hc] at h;exact ⟨zn (by omega) (by omega),by simpa using h⟩
 ·rintro s rfl k;exact ⟨fun h=>absurd (dt h) (by omega),fun _=>rfl⟩
theorem zld {a b:Cl}:zc8 a b (a &&& b):=by
 refine words_up (P:=fun k s v=>zc8.l1 b _ k s v) (a:=a) (r:=a &&& b) (fun i w=>w &&& b.word i) (fun i hi=>?_) (fun k i s v hi hw hv h=>?_) (fun k=>?_)
 ·refine ziu hi (Nat.and_lt_two_pow _ (b.word_lt i)) fun j hj=>?_;rw [zkl,Nat.testBit_and,Cl.word_bit,Cl.word_bit];simp [hj]
 ·refine ⟨fun _=>⟨⟨by omega,by omega⟩,⟨by omega,by omega⟩,⟨by omega,by omega⟩,zn (by omega) (by omega), ?_⟩,fun h=>absurd (by omega) (df h)⟩;rw [show andI (Cl.w s (i:Int)) (Cl.w b (i:Int))=v by rw [hv];unfold andI;rw [w_nat,w_nat,Int.toNat_natCast,hw]];exact h
 ·exact ⟨fun h=>absurd (dt h) (by omega),fun _=>rfl⟩
theorem zl9 {a:Cl}:zdu a (~~~ a):=by
 refine words_up (P:=fun k s v=>zdu.l1 _ k s v) (a:=a) (r := ~~~ a) (fun i w=>18446744073709551615 ^^^ w) (fun i hi=>?_) (fun k i s v hi hw hv h=>?_) (fun k=>?_)
 ·refine ziu hi (Nat.xor_lt_two_pow (by omega) (a.word_lt i)) fun j hj=>?_;rw [znp (by omega),Nat.testBit_xor,Cl.word_bit,show 18446744073709551615=2 ^ 64-1 by rfl,Nat.testBit_two_pow_sub_one];simp [hj]
 ·refine ⟨fun _=>⟨⟨by omega,by omega⟩,⟨by omega,by omega⟩,zn (by omega) (by omega), ?_⟩,fun h=>absurd (by omega) (df h)⟩;rw [show xorI 18446744073709551615 (Cl.w s (i:Int))=v by rw [hv];unfold xorI;rw [w_nat,Int.toNat_natCast,hw];rfl];exact h
 ·exact ⟨fun h=>absurd (dt h) (by omega),fun _=>rfl⟩
theorem dt0 {p:Prop} [Decidable p] (h:decide p=true):p:=of_decide_eq_true h
theorem df0 {p:Prop} [Decidable p] (h:decide p=false):¬ p:=of_decide_eq_false h
def zqz (key:Cl→Int) (cmp:Cl × Cl × Int→Prop):Prop:=∀x y,cmp (x,y,key x-key y)
theorem ins_l2 {key:Cl→Int} {cmp:Cl × Cl × Int→Prop} (hc:zqz key cmp) {A B:List Cl} {x:Cl} {X:List Cl→Prop}:
  ∀(m:Nat) (P G:List Cl),P.length=m→Srt key (P++G)→(∀g∈G,key x<key g)→(A++P++x::(G++B)).length<4611686018427387904 →
   (∀Q,Srt key Q→SEq key (P++x::G) Q→X (A++Q++B)) →
   ∃k,zg.l2 (A.length:Int) cmp X k (A++P++x::(G++B)) ((A.length+P.length:Nat):Int):=by
 intro m
 induction m with
 | zero=>
  intro P G hm hs hg hlen hX;have hP:=List.eq_nil_of_length_eq_zero hm;subst hP;refine ⟨1,x,fun h=>absurd (dt0 h) (by simp),fun h=>absurd (dt0 h) (by simp),x,fun h=>absurd (dt0 h) (by simp),0,fun h=>absurd (dt0 h) (by simp),fun h=>?_,fun _=>?_⟩
  ·simp at h
  ·have:=hX (x::G) (Srt.cons.2 ⟨fun y hy=>Int.le_of_lt (hg y hy),by simpa using hs⟩) (SEq.refl _ _);simpa using this
 | succ m ih=>
  intro P G hm hs hg hlen hX;obtain ⟨P,y,rfl⟩:=snoc_of (l:=P) (by rintro rfl;simp at hm);have hmP:P.length=m:=by simpa using hm
  have hl2:A.length+P.length+1<4611686018427387904:=by simp at hlen;omega
  have e0:A++(P++[y])++x::(G++B)=(A++P)++y::x::(G++B):=by simp
  have e1:A++(P++[y])++x::(G++B)=(A++P++[y])++x::(G++B):=by simp
  have hj:((A.length+(P++[y]).length:Nat):Int)=((A.length+P.length:Nat):Int)+1:=by simp <;> omega
  have at1:at? (A++(P++[y])++x::(G++B)) ((A.length+(P++[y]).length:Nat):Int)=some x:=by rw [e1];exact zit (by simp <;> omega)
  have at2:at? (A++(P++[y])++x::(G++B)) (((A.length+(P++[y]).length:Nat):Int)-1)=some y:=by rw [e0];exact zit (by simp <;> omega)
  by_cases hlt:key x<key y
  ·-- a round more
   obtain ⟨k,hk⟩:=ih P (y::G) hmP (by simpa using hs) (fun g hgm=>by
     rcases List.mem_cons.1 hgm with rfl | h
     ·exact hlt
     ·exact hg g h) (by simp at hlen ⊢ <;> omega) (fun Q hQ hE=>hX Q hQ (SEq.trans (by
      have:SEq key ([y]++[x]) ([x]++[y]):=zjp (by simp <;> omega);have h2:=(SEq.refl key P).app (this.app (SEq.refl key G));simpa using h2) hE))
   refine ⟨k+1,x,fun _=>at1,fun _=>zn (by omega) (by omega),y,fun _=>at2,key x-key y,fun _=>hc x y,fun _=>?_,fun h=>?_⟩
   ·refine ⟨zn (by omega) (by omega),zn (by omega) (by omega),y,at2,x,at1,x,at1,y, ?_,zn (by omega) (by omega), ?_⟩
    ·rw [e1,zie (by simp <;> omega)];rw [show (A++P++[y]++y::(G++B))=(A++P)++y::y::(G++B) by simp];exact zit (by simp <;> omega)
    ·have:((A++(P++[y])++x::(G++B)).set ((A.length+(P++[y]).length:Nat):Int).toNat y).set (((A.length+(P++[y]).length:Nat):Int)-1).toNat x=A++P++x::(y::G++B):=by
      rw [e1,zie (by simp <;> omega)];rw [show (A++P++[y]++y::(G++B))=(A++P)++y::y::(G++B) by simp];rw [zie (by simp <;> omega)];simp
     rw [this,show (((A.length+(P++[y]).length:Nat):Int)-1)=((A.length+P.length:Nat):Int) by omega];exact hk
   ·exfalso;simp at h;omega
  ·refine ⟨1,x,fun _=>at1,fun _=>zn (by omega) (by omega),y,fun _=>at2,key x-key y,fun _=>hc x y,fun h=>?_,fun _=>?_⟩
   ·exfalso;simp at h;omega
   ·have:=hX (P++[y]++x::G) (Srt.app.2 ⟨(Srt.app.1 hs).1,Srt.cons.2 ⟨fun g hgm=>Int.le_of_lt (hg g hgm),(Srt.app.1 hs).2.1⟩,fun p hp q hq=>?_⟩) (SEq.refl _ _)
    ·simpa using this
    ·have hpy:key p≤key y:=by
      rcases List.mem_append.1 hp with h | h
      ·exact (Srt.app.1 (Srt.app.1 hs).1).2.2 p h y (by simp)
      ·simp at h;subst h;exact Int.le_refl _
     rcases List.mem_cons.1 hq with rfl | h
     ·omega
     ·have:=(Srt.app.1 hs).2.2 p hp q h;exact this
theorem ins_in {key:Cl→Int} {cmp:Cl × Cl × Int→Prop} (hc:zqz key cmp) {A S B:List Cl} {a b:Int} (ha:a=(A.length:Int)) (hb:b=((A.length+S.length:Nat):Int)) (hlen:(A++S++B).length<4611686018427387904):
  zg (A++S++B) a b cmp (A++srt key S++B):=by
 have hlA:A.length+S.length<4611686018427387904:=by simp at hlen;omega
 subst ha;subst hb;have key2:∀(m:Nat) (P R:List Cl),R.length=m→Srt key P→SEq key S (P++R)→∀{X:List Cl→Prop},X (A++srt key S++B) →
   ∃k,zg.l1 (A.length:Int) ((A.length+S.length:Nat):Int) cmp X k (A++(P++R)++B) ((A.length+P.length:Nat):Int):=by
  intro m
  induction m with
  | zero=>
   intro P R hR hP hS X hX;have:=List.eq_nil_of_length_eq_zero hR;subst this;have hl:=hS.length;simp at hl;have e:=zim hP (by simpa using hS);exact ⟨1,fun h=>absurd (dt0 h) (by omega),fun _=>by rw [List.append_nil,e];exact hX⟩
  | succ m ih=>
   intro P R hR hP hS X hX;cases R with
   | nil=>simp at hR
   | cons x R=>
    have hl:=hS.length;simp at hl;simp at hR;have hS2:SEq key S (srt key (P++[x])++R):=hS.trans (by
     have:=(zgs key (P++[x])).app (SEq.refl key R);simpa using this)
    obtain ⟨k,hk⟩:=ih (srt key (P++[x])) R hR (ziy _ _) hS2 hX;refine ⟨k+1,fun _=>?_,fun h=>absurd (by omega) (df0 h)⟩;have:=ins_l2 hc (A:=A) (B:=R++B) (x:=x) (X:=zg.j2 (zg.l1 (A.length:Int) ((A.length+S.length:Nat):Int) cmp X k) ((A.length+P.length:Nat):Int)) P.length P [] rfl (by simpa using hP) (by simp) (by simp at hlen ⊢ <;> omega) (fun Q hQ hE=>by
     have hQe:=zim hQ hE;refine ⟨zn (by omega) (by omega), ?_⟩;rw [hQe];have e1:((A.length+(srt key (P++[x])).length:Nat):Int)=((A.length+P.length:Nat):Int)+1:=by rw [zhi];simp;omega
     rw [e1] at hk;simpa using hk)
    simpa using this
 refine ⟨zn (by omega) (by omega), ?_⟩;cases S with
 | nil=>
  refine ⟨1,fun h=>absurd (dt0 h) (by simp <;> omega),fun _=>?_⟩;show A++srt key []++B=A++[]++B;rw [List.eq_nil_of_length_eq_zero (zhi key [])]
 | cons x S=>
  have:=key2 S.length [x] S rfl (by simp [Srt]) (SEq.refl _ _) (X:=zg.j1 (A++srt key (x::S)++B)) rfl;simpa using this
theorem swap_l1 {A M B:List Cl} {a b n:Int} {X:List Cl→Prop}:∀(X2 Y2 X1 Y1:List Cl),X2.length=Y2.length→X1.length=Y1.length→a=(A.length:Int)→b=((A.length+X1.length+X2.length+M.length:Nat):Int)→n=((X1.length+X2.length:Nat):Int) →
  (A++Y1++X2++M++X1++Y2++B).length<4611686018427387904→X (A++(Y1++Y2)++M++(X1++X2)++B) →
  ∃k,zp.l1 a b n X k (A++Y1++X2++M++X1++Y2++B) (X1.length:Int)
 | [],[],X1,Y1,_,h1,ha,hb,hn,hl,hX=>⟨1,fun h=>absurd (dt0 h) (by rw [hn];simp),fun _=>by simpa using hX⟩
 | x::X2,y::Y2,X1,Y1,h0,h1,ha,hb,hn,hl,hX=>by
  simp at h0;have hl':A.length+Y1.length+X2.length+M.length+X1.length+Y2.length+B.length+2<4611686018427387904:=by simp at hl;omega
  obtain ⟨k,hk⟩:=swap_l1 (A:=A) (M:=M) (B:=B) (a:=a) (b:=b) (n:=n) (X:=X) X2 Y2 (X1++[x]) (Y1++[y]) h0 (by simp <;> omega) ha (by rw [hb];simp <;> omega) (by rw [hn];simp <;> omega) (by simp at hl ⊢ <;> omega) (by simpa using hX);have e1:A++Y1++x::X2++M++X1++y::Y2++B=(A++Y1)++x::(X2++M++X1++y::Y2++B):=by simp
  have e2:A++Y1++x::X2++M++X1++y::Y2++B=(A++Y1++x::X2++M++X1)++y::(Y2++B):=by simp
  have pa:a+(X1.length:Int)=((A++Y1).length:Int):=by rw [ha];simp <;> omega
  have pb:b+(X1.length:Int)=((A++Y1++x::X2++M++X1).length:Int):=by rw [hb];simp <;> omega
  have hb0:b+(X1.length:Int)<4611686018427387904∧0≤b+(X1.length:Int):=by rw [pb];simp <;> omega
  have ha0:a+(X1.length:Int)<4611686018427387904∧0≤a+(X1.length:Int):=by rw [pa];simp <;> omega
  have aty:at? (A++Y1++x::X2++M++X1++y::Y2++B) (b+(X1.length:Int))=some y:=by rw [e2];exact zit pb
  have atx:at? (A++Y1++x::X2++M++X1++y::Y2++B) (a+(X1.length:Int))=some x:=by rw [e1];exact zit pa
  have s1:(A++Y1++x::X2++M++X1++y::Y2++B).set (a+(X1.length:Int)).toNat y=A++Y1++y::X2++M++X1++y::Y2++B:=by rw [e1,zie pa];simp
  have e3:A++Y1++y::X2++M++X1++y::Y2++B=(A++Y1++y::X2++M++X1)++y::(Y2++B):=by simp
  have pb':b+(X1.length:Int)=((A++Y1++y::X2++M++X1).length:Int):=by rw [pb];simp
  refine ⟨k+1,fun _=>⟨zn (by omega) (by omega),zn (by omega) (by omega),zn (by omega) (by omega),y,aty,zn (by omega) (by omega),x,atx,x,atx,y, ?_,zn (by omega) (by omega), ?_⟩,fun h=>absurd (by rw [hn];simp <;> omega) (df0 h)⟩
  ·rw [s1,e3];exact zit pb'
  ·rw [s1,e3,zie pb'];simpa using hk
 | [],_::_,_,_,h,_,_,_,_,_,_=>by simp at h
 | _::_,[],_,_,h,_,_,_,_,_,_=>by simp at h
theorem swap_in {A X M Y B:List Cl} {a b n:Int} {cmp:Cl × Cl × Int→Prop} (ha:a=(A.length:Int)) (hb:b=((A.length+X.length+M.length:Nat):Int)) (hn:n=(X.length:Int)) (hxy:X.length=Y.length) (hl:(A++X++M++Y++B).length<4611686018427387904):
  zp (A++X++M++Y++B) a b n cmp (A++Y++M++X++B):=by
 have:=swap_l1 (A:=A) (M:=M) (B:=B) (a:=a) (b:=b) (n:=n) (X:=zp.j1 (A++Y++M++X++B)) X Y [] [] hxy rfl ha (by rw [hb];simp) (by rw [hn];simp) (by simpa using hl) rfl;unfold zp;simpa using this
theorem rot_in {A X Y B:List Cl} {a m b:Int} {cmp:Cl × Cl × Int→Prop} (ha:a=(A.length:Int)) (hm:m=((A.length+X.length:Nat):Int)) (hb:b=((A.length+X.length+Y.length:Nat):Int)) (hX:X≠[]) (hY:Y≠[]) (hl:(A++X++Y++B).length<4611686018427387904):
  zw (A++X++Y++B) a m b cmp (A++Y++X++B):=by
 have hl':A.length+X.length+Y.length+B.length<4611686018427387904:=by simp at hl;omega
 refine ⟨zn (by omega) (by omega),zn (by omega) (by omega), ?_⟩;have key:∀(f:Nat) (L X' Y' R:List Cl),X'.length+Y'.length≤f→X'≠[]→Y'≠[]→A.length+L.length+X'.length=A.length+X.length→L++Y'++X'++R=Y++X →
   ∃k,zw.l1 m cmp (zw.j1 m cmp (A++Y++X++B)) k (A++L++X'++Y'++R++B) (X'.length:Int) (Y'.length:Int):=by
  intro f
  induction f with
  | zero=>intro L X' Y' R hf hx;exact absurd (List.eq_nil_of_length_eq_zero (by omega)) hx
  | succ f ih=>
   intro L X' Y' R hf hx hy hmid heq;have hx':0<X'.length:=List.length_pos_iff.2 hx;have hy':0<Y'.length:=List.length_pos_iff.2 hy;have hle:=congrArg List.length heq;simp at hle
   by_cases hlt:Y'.length<X'.length
   ·obtain ⟨X1,X2,rfl,hX1⟩:=zf0 X' (Nat.le_of_lt hlt);have hX2:X2≠[]:=by rintro rfl;simp at hlt;omega
    have hX2':0<X2.length:=List.length_pos_iff.2 hX2;simp at hle hmid hf hlt;obtain ⟨k,hk⟩:=ih (L++Y') X2 X1 R (by omega) hX2 (by rintro rfl;simp at hX1;omega) (by first | omega | (simp;omega)) (by simpa using heq);refine ⟨k+1,fun _=>⟨fun _=>⟨zn (by first | omega | (simp;omega)) (by first | omega | (simp;omega)),A++L++Y'++X2++X1++(R++B), ?_,zn (by first | omega | (simp;omega)) (by first | omega | (simp;omega)), ?_⟩,fun h=>absurd (by simp;omega) (df0 h)⟩,fun h=>by simp at h;omega⟩
    ·have:=swap_in (cmp:=cmp) (A:=A++L) (X:=X1) (M:=X2) (Y:=Y') (B:=R++B) (a:=m-((X1++X2).length:Int)) (b:=m) (n:=(Y'.length:Int)) (by rw [hm];simp;omega) (by rw [hm];simp;omega) (by omega) (by omega) (by simp;omega);simpa using this
    ·have e:(((X1++X2).length:Nat):Int)-(Y'.length:Int)=(X2.length:Int):=by simp;omega
     rw [e,← hX1];simpa using hk
   ·by_cases heq2:X'.length=Y'.length
    ·refine ⟨1,fun h=>?_,fun _=>⟨zn (by first | omega | (simp;omega)) (by first | omega | (simp;omega)),A++L++Y'++X'++R++B, ?_, ?_⟩⟩
     ·simp at h;omega
     ·have:=swap_in (cmp:=cmp) (A:=A++L) (X:=X') (M:=[]) (Y:=Y') (B:=R++B) (a:=m-(X'.length:Int)) (b:=m) (n:=(X'.length:Int)) (by rw [hm];simp;omega) (by rw [hm];simp;omega) rfl heq2 (by simp;omega);simpa using this
     ·have:A++(Y++X)++B=A++(L++Y'++X'++R)++B:=by rw [heq]
      simpa using this
    ·have hlt2:X'.length<Y'.length:=by omega
     obtain ⟨Y1,Y2,rfl,hY1⟩:=zf0 Y' (show Y'.length-X'.length≤Y'.length by omega);have hY2:Y2.length=X'.length:=by simp at hY1 hlt2;omega
     have hY1':Y1≠[]:=by rintro rfl;simp at hY1 hlt2;omega
     simp at hle hmid hf hlt2;obtain ⟨k,hk⟩:=ih L Y2 Y1 (X'++R) (by omega) (by rintro rfl;simp at hY2;omega) hY1' (by omega) (by simpa using heq);refine ⟨k+1,fun _=>⟨fun h=>absurd (dt0 h) (by simp;omega),fun _=>⟨zn (by omega) (by omega),zn (by first | omega | (simp;omega)) (by first | omega | (simp;omega)),zn (by first | omega | (simp;omega)) (by first | omega | (simp;omega)),A++L++Y2++Y1++X'++(R++B), ?_,zn (by first | omega | (simp;omega)) (by first | omega | (simp;omega)), ?_⟩⟩,fun h=>by simp at h;omega⟩
     ·have:=swap_in (cmp:=cmp) (A:=A++L) (X:=X') (M:=Y1) (Y:=Y2) (B:=R++B) (a:=m-(X'.length:Int)) (b:=m+((Y1++Y2).length:Int)-(X'.length:Int)) (n:=(X'.length:Int)) (by rw [hm];simp;omega) (by rw [hm];simp;omega) rfl (by omega) (by simp;omega);simpa using this
     ·have e:(((Y1++Y2).length:Nat):Int)-(X'.length:Int)=(Y1.length:Int):=by simp;omega
      rw [e,← hY2];simpa using hk
 have:=key (X.length+Y.length) [] X Y [] (Nat.le_refl _) hX hY (by simp) (by simp);have e1:m-a=(X.length:Int):=by omega
 have e2:b-m=(Y.length:Int):=by omega
 rw [e1,e2];simpa using this
theorem at_app1 {A S B:List Cl} {c:Nat} (h1:A.length≤c) (h2:c<A.length+S.length):at? (A++S++B) (c:Int)=some (S[c-A.length]'(by omega)):=by
 rw [zci,List.append_assoc,List.getElem?_append_right h1,List.getElem?_append_left (by omega),List.getElem?_eq_getElem (by omega)]
theorem zot {key:Cl→Int} {S:List Cl} (h:Srt key S) {i j:Nat} (hij:i≤j) (hj:j<S.length):key (S[i]'(by omega))≤key S[j]:=by
 rcases Nat.lt_or_ge i j with hlt | hge
 ·exact List.pairwise_iff_getElem.1 h i j (by omega) hj hlt
 ·have:i=j:=by omega
  subst this;exact Int.le_refl _
theorem sm_l1 {A B:List Cl} {x:Cl} {i:Int} {X:List Cl→Prop}:∀(Y2 Y1:List Cl),i=((A.length+Y1.length+Y2.length:Nat):Int)+1→(A++Y1++x::Y2++B).length<4611686018427387904→X (A++(Y1++Y2)++x::B) →
  ∃k,zd.l1 i X k (A++Y1++x::Y2++B) ((A.length+Y1.length:Nat):Int)
 | [],Y1,hi,hl,hX=>by
  have hl':A.length+Y1.length<4611686018427387904:=by simp at hl;omega
  exact ⟨1,zn (by simp at hi;omega) (by simp at hi;omega),fun h=>absurd (dt0 h) (by simp at hi;omega),fun _=>by simpa using hX⟩
 | y::Y2,Y1,hi,hl,hX=>by
  have hl':A.length+Y1.length+Y2.length+1<4611686018427387904:=by simp at hl;omega
  have hi':=hi;simp at hi';obtain ⟨k,hk⟩:=sm_l1 (A:=A) (B:=B) (x:=x) (i:=i) (X:=X) Y2 (Y1++[y]) (by rw [hi];simp;omega) (by simp at hl ⊢;omega) (by simpa using hX);have e1:A++Y1++x::(y::Y2)++B=(A++Y1)++x::(y::Y2++B):=by simp
  have e2:A++Y1++x::(y::Y2)++B=(A++Y1++[x])++y::(Y2++B):=by simp
  have p1:((A.length+Y1.length:Nat):Int)=((A++Y1).length:Int):=by simp
  have p2:((A.length+Y1.length:Nat):Int)+1=((A++Y1++[x]).length:Int):=by simp;omega
  have a1:at? (A++Y1++x::(y::Y2)++B) ((A.length+Y1.length:Nat):Int)=some x:=by rw [e1];exact zit p1
  have a2:at? (A++Y1++x::(y::Y2)++B) (((A.length+Y1.length:Nat):Int)+1)=some y:=by rw [e2];exact zit p2
  have s1:(A++Y1++x::(y::Y2)++B).set ((A.length+Y1.length:Nat):Int).toNat y=(A++Y1++[y])++y::(Y2++B):=by rw [e1,zie p1];simp
  have p2':((A.length+Y1.length:Nat):Int)+1=((A++Y1++[y]).length:Int):=by simp;omega
  refine ⟨k+1,zn (by omega) (by omega),fun _=>⟨zn (by omega) (by omega),zn (by omega) (by omega),y,a2,x,a1,x,a1,y, ?_,zn (by omega) (by omega), ?_⟩,fun h=>absurd (by omega) (df0 h)⟩
  ·rw [s1];exact zit p2'
  ·rw [s1,zie p2'];have p3:((A.length+(Y1++[y]).length:Nat):Int)=((A.length+Y1.length:Nat):Int)+1:=by simp;omega
   rw [p3] at hk;simpa using hk
theorem sm_l3 {A B:List Cl} {x:Cl} {i:Int} {X:List Cl→Prop}:∀(m:Nat) (Y1 Y2:List Cl),Y1.length=m→i=(A.length:Int)→(A++Y1++x::Y2++B).length<4611686018427387904→X (A++x::(Y1++Y2)++B) →
  ∃k,zd.l3 i X k (A++Y1++x::Y2++B) ((A.length+Y1.length:Nat):Int):=by
 intro m
 induction m with
 | zero=>
  intro Y1 Y2 hm hi hl hX;have:=List.eq_nil_of_length_eq_zero hm;subst this;exact ⟨1,fun h=>absurd (dt0 h) (by rw [hi];simp),fun _=>by simpa using hX⟩
 | succ m ih=>
  intro Y1 Y2 hm hi hl hX;obtain ⟨Y1,y,rfl⟩:=snoc_of (l:=Y1) (by rintro rfl;simp at hm);have hl':A.length+Y1.length+Y2.length+1<4611686018427387904:=by simp at hl;omega
  obtain ⟨k,hk⟩:=ih Y1 (y::Y2) (by simpa using hm) hi (by simp at hl ⊢;omega) (by simpa using hX);have e1:A++(Y1++[y])++x::Y2++B=(A++Y1)++y::(x::Y2++B):=by simp
  have e2:A++(Y1++[y])++x::Y2++B=(A++Y1++[y])++x::(Y2++B):=by simp
  have p2:((A.length+(Y1++[y]).length:Nat):Int)=((A++Y1++[y]).length:Int):=by simp
  have p1:((A.length+(Y1++[y]).length:Nat):Int)-1=((A++Y1).length:Int):=by simp;omega
  have a2:at? (A++(Y1++[y])++x::Y2++B) ((A.length+(Y1++[y]).length:Nat):Int)=some x:=by rw [e2];exact zit p2
  have a1:at? (A++(Y1++[y])++x::Y2++B) (((A.length+(Y1++[y]).length:Nat):Int)-1)=some y:=by rw [e1];exact zit p1
  have s1:(A++(Y1++[y])++x::Y2++B).set ((A.length+(Y1++[y]).length:Nat):Int).toNat y=(A++Y1)++y::(y::Y2++B):=by rw [e2,zie p2];simp
  refine ⟨k+1,fun _=>⟨zn (by simp;omega) (by simp;omega),zn (by simp;omega) (by simp;omega),y,a1,x,a2,x,a2,y, ?_,zn (by simp;omega) (by simp;omega), ?_⟩,fun h=>absurd (by rw [hi];simp;omega) (df0 h)⟩
  ·rw [s1];exact zit p1
  ·rw [s1,zie p1,p1,show (((A++Y1).length:Nat):Int)=((A.length+Y1.length:Nat):Int) by simp];simpa using hk
theorem at_gd {A S B:List Cl} {c:Nat} (h1:A.length≤c) (h2:c<A.length+S.length):at? (A++S++B) (c:Int)=some (S.getD (c-A.length) 0#256):=by
 rw [at_app1 h1 h2,List.getD,List.getElem?_eq_getElem (by omega)];rfl
theorem gd_le {key:Cl→Int} {S:List Cl} (h:Srt key S) {i j:Nat} (hij:i≤j) (hj:j<S.length):key (S.getD i 0#256)≤key (S.getD j 0#256):=by
 have:=zot h hij hj;rw [List.getD,List.getD,List.getElem?_eq_getElem (by omega),List.getElem?_eq_getElem hj];exact this
theorem getD_l {X Y:List Cl} {q:Nat} (h:q<X.length):(X++Y).getD q 0#256=X[q]:=by
 rw [List.getD,List.getElem?_append_left h,List.getElem?_eq_getElem h];rfl
theorem getD_r {X Y:List Cl} {q:Nat} (h:q<Y.length):(X++Y).getD (X.length+q) 0#256=Y[q]:=by
 rw [List.getD,List.getElem?_append_right (by omega),Nat.add_sub_cancel_left,List.getElem?_eq_getElem h];rfl
theorem sym_j7 {key:Cl→Int} {cmp:Cl × Cl × Int→Prop} {f:Nat} {A S1 S2 T1 T2 B:List Cl}
  (ih:∀(A S T B:List Cl),S.length+T.length≤f→S≠[]→T≠[]→Srt key S→Srt key T→(A++S++T++B).length<4611686018427387904 →
   zd.n f (A++S++T++B) (A.length:Int) ((A.length+S.length:Nat):Int) ((A.length+S.length+T.length:Nat):Int) cmp (A++srt key (S++T)++B))
  (hS:Srt key (S1++S2)) (hT:Srt key (T1++T2)) (hlen:(A++(S1++S2)++(T1++T2)++B).length<4611686018427387904) (h1:∀t∈T1,∀s∈S2,key t<key s) (h2:∀s∈S1,∀t∈T2,key s≤key t)
  {st mid m b:Int} (hst:st=((A.length+S1.length:Nat):Int)) (hmid:mid=((A.length+S1.length+T1.length:Nat):Int)) (hm:m=((A.length+S1.length+S2.length:Nat):Int)) (hb:b=((A.length+S1.length+S2.length+T1.length+T2.length:Nat):Int))
  (hf1:S1.length+T1.length≤f) (hf2:S2.length+T2.length≤f):
  zd.j7 (zd.n f) (A++(S1++S2)++(T1++T2)++B) (A.length:Int) m b cmp (A++srt key ((S1++S2)++(T1++T2))++B) mid st:=by
 have hl:A.length+S1.length+S2.length+T1.length+T2.length+B.length<4611686018427387904:=by simp at hlen;omega
 obtain ⟨hS1,hS2,hSS⟩:=Srt.app.1 hS;obtain ⟨hT1,hT2,hTT⟩:=Srt.app.1 hT;have hres:srt key ((S1++S2)++(T1++T2))=srt key (S1++T1)++srt key (S2++T2):=by
  refine (zim (Srt.app.2 ⟨ziy _ _,ziy _ _,fun x hx y hy=>?_⟩) ?_).symm
  ·have hx':=(zgs key (S1++T1)).perm.mem_iff.2 hx;have hy':=(zgs key (S2++T2)).perm.mem_iff.2 hy;rcases List.mem_append.1 hx' with hx1 | hx1 <;> rcases List.mem_append.1 hy' with hy1 | hy1
   ·exact hSS x hx1 y hy1
   ·exact h2 x hx1 y hy1
   ·exact Int.le_of_lt (h1 x hx1 y hy1)
   ·exact hTT x hx1 y hy1
  ·have e1:SEq key (S2++T1) (T1++S2):=zjp fun x hx y hy=>by have:=h1 y hy x hx;omega
   have e2:=(SEq.refl key S1).app (e1.app (SEq.refl key T2));have e3:=(zgs key (S1++T1)).app (zgs key (S2++T2));exact SEq.trans (by simpa using e2) (by simpa using e3)
 rw [hres];have hj5:zd.j5 (zd.n f) m b cmp (A++(srt key (S1++T1)++srt key (S2++T2))++B) mid st (A++srt key (S1++T1)++S2++T2++B):=by
  refine ⟨_,rfl,fun h=>?_,fun h=>?_⟩
  ·simp only [Bool.and_eq_true,decide_eq_true_eq] at h;have hS2n:S2≠[]:=by rintro rfl;simp at hm;omega
   have hT2n:T2≠[]:=by rintro rfl;simp at hb;omega
   have:=ih (A++srt key (S1++T1)) S2 T2 B hf2 hS2n hT2n hS2 hT2 (by simp [zhi];omega);refine ⟨_, ?_,rfl⟩;have e1:(((A++srt key (S1++T1)).length:Nat):Int)=mid:=by rw [hmid];simp [zhi];omega
   have e2:(((A++srt key (S1++T1)).length+S2.length:Nat):Int)=mid+m-st:=by rw [hmid,hm,hst];simp [zhi];omega
   have e3:(((A++srt key (S1++T1)).length+S2.length+T2.length:Nat):Int)=b:=by rw [hb];simp [zhi];omega
   rw [e1,e2,e3] at this;simpa using this
  ·have:S2=[]∨T2=[]:=by
    simp only [Bool.and_eq_false_iff,decide_eq_false_iff_not] at h;rcases h with h | h
    ·left;exact List.eq_nil_of_length_eq_zero (by omega)
    ·right;exact List.eq_nil_of_length_eq_zero (by omega)
   have e:srt key (S2++T2)=S2++T2:=by
    rcases this with rfl | rfl
    ·exact (zim (by simpa using hT2) (SEq.refl _ _)).symm
    ·exact (zim (by simpa using hS2) (SEq.refl _ _)).symm
   rw [e];simp
 have hj6:zd.j6 (zd.n f) (A.length:Int) m b cmp (A++(srt key (S1++T1)++srt key (S2++T2))++B) mid st (A++S1++T1++S2++T2++B):=by
  refine ⟨_,rfl,fun h=>?_,fun h=>?_⟩
  ·simp only [Bool.and_eq_true,decide_eq_true_eq] at h;have hS1n:S1≠[]:=by rintro rfl;simp at hst;omega
   have hT1n:T1≠[]:=by rintro rfl;simp at hmid;omega
   have:=ih A S1 T1 (S2++T2++B) hf1 hS1n hT1n hS1 hT1 (by simp;omega);refine ⟨A++srt key (S1++T1)++S2++T2++B, ?_,hj5⟩;rw [← hst,← hmid] at this;simpa using this
  ·have:S1=[]∨T1=[]:=by
    simp only [Bool.and_eq_false_iff,decide_eq_false_iff_not] at h;rcases h with h | h
    ·left;exact List.eq_nil_of_length_eq_zero (by omega)
    ·right;exact List.eq_nil_of_length_eq_zero (by omega)
   have e:srt key (S1++T1)=S1++T1:=by
    rcases this with rfl | rfl
    ·exact (zim (by simpa using hT1) (SEq.refl _ _)).symm
    ·exact (zim (by simpa using hS1) (SEq.refl _ _)).symm
   rw [e] at hj5 ⊢;simpa using hj5
 refine ⟨zn (by omega) (by omega),_,rfl,fun h=>?_,fun h=>?_⟩
 ·simp only [Bool.and_eq_true,decide_eq_true_eq] at h;have hS2n:S2≠[]:=by rintro rfl;simp at hm;omega
  have hT1n:T1≠[]:=by rintro rfl;simp at hmid;omega
  have:=rot_in (cmp:=cmp) (A:=A++S1) (X:=S2) (Y:=T1) (B:=T2++B) (a:=st) (m:=m) (b:=mid+m-st) (by rw [hst];simp) (by rw [hm];simp) (by rw [hmid,hm,hst];simp;omega) hS2n hT1n (by simp;omega);refine ⟨A++S1++T1++S2++T2++B, ?_,hj6⟩;simpa using this
 ·have:S2=[]∨T1=[]:=by
   simp only [Bool.and_eq_false_iff,decide_eq_false_iff_not] at h;rcases h with h | h
   ·left;exact List.eq_nil_of_length_eq_zero (by omega)
   ·right;exact List.eq_nil_of_length_eq_zero (by omega)
  have e:A++(S1++S2)++(T1++T2)++B=A++S1++T1++S2++T2++B:=by
   rcases this with rfl | rfl <;> simp
  rw [e];exact hj6
theorem sym_n {key:Cl→Int} {cmp:Cl × Cl × Int→Prop} (hc:zqz key cmp):∀(f:Nat) (A S T B:List Cl),S.length+T.length≤f→S≠[]→T≠[]→Srt key S→Srt key T→(A++S++T++B).length<4611686018427387904 →
  zd.n f (A++S++T++B) (A.length:Int) ((A.length+S.length:Nat):Int) ((A.length+S.length+T.length:Nat):Int) cmp (A++srt key (S++T)++B):=by
 intro f
 induction f with
 | zero=>intro A S T B hf hS;exact absurd (List.eq_nil_of_length_eq_zero (by omega)) hS
 | succ f ih=>
  intro A S T B hf hSn hTn hS hT hlen;have hl:A.length+S.length+T.length+B.length<4611686018427387904:=by simp at hlen;omega
  have hs0:0<S.length:=List.length_pos_iff.2 hSn;have ht0:0<T.length:=List.length_pos_iff.2 hTn;have atS:∀c:Nat,A.length≤c→c<A.length+S.length→at? (A++S++T++B) (c:Int)=some (S.getD (c-A.length) 0#256):=fun c h1 h2=>by
   rw [show A++S++T++B=A++S++(T++B) by simp];exact at_gd h1 h2
  have atT:∀c:Nat,A.length+S.length≤c→c<A.length+S.length+T.length→at? (A++S++T++B) (c:Int)=some (T.getD (c-(A.length+S.length)) 0#256):=fun c h1 h2=>by
   have:=at_gd (A:=A++S) (S:=T) (B:=B) (c:=c) (by simp;omega) (by simp;omega);simpa using this
  refine ⟨zn (by omega) (by omega),fun h1=>?_,fun h1=>⟨zn (by omega) (by omega),fun h2=>?_,fun h2=>⟨zn (by omega) (by omega), ?_⟩⟩⟩
  ·-- one thing ahead
   have hs1:S.length=1:=by simp at h1;omega
   obtain ⟨x,rfl⟩:=List.length_eq_one_iff.1 hs1;refine bsearch (P:=fun k i j=>zd.l2 (A++[x]++T++B) (A.length:Int) cmp _ k i j) (fun c=>decide (key (T.getD (c-(A.length+1)) 0#256)<key x)) (A.length+1) (A.length+1+T.length) (fun c d h1 h2 h3 h4=>?_) (fun k i j h1 h2 h3=>?_) (fun k i h1 h2 h3 h4=>?_) (by omega)
   ·have:=gd_le hT (i:=c-(A.length+1)) (j:=d-(A.length+1)) (by omega) (by omega);simp only [decide_eq_true_eq] at h4 ⊢;omega
   ·have hat:=atT ((i+j) / 2) (by simp;omega) (by simp;omega);have hax:=atS A.length (Nat.le_refl _) (by simp);have hh:∀(p:Prop),(((decide ((i:Int)<(j:Int)))=true→InR .i64 ((i:Int)+j)∧∃i42:Int,i42=(IntKind.wrap .i64 (shrI (IntKind.wrap .u64 ((i:Int)+j)) 1))∧∃e45:Cl,at? (A++[x]++T++B) i42=some e45∧∃e47:Cl,at? (A++[x]++T++B) (A.length:Int)=some e47∧∃r49:Int,cmp (e45,e47,r49)∧p)→True):=fun _ _=>trivial;constructor
    ·intro hp hk;refine ⟨fun _=>⟨zn (by omega) (by omega),_,rfl,T.getD ((i+j) / 2-(A.length+1)) 0#256, ?_,x,by simpa using hax,_,hc _ _,fun _=>⟨?_, ?_⟩,fun h=>?_⟩,fun h=>absurd (by omega) (df0 h)⟩
     ·rw [zgg (by omega) (by omega),show ((i:Int)+j) / 2=(((i+j) / 2:Nat):Int) by omega];simpa using hat
     ·rw [zgg (by omega) (by omega)];exact zn (by omega) (by omega)
     ·rw [zgg (by omega) (by omega),show ((i:Int)+j) / 2+1=(((i+j) / 2+1:Nat):Int) by omega];exact hk
     ·exfalso;simp at h hp;omega
    ·intro hp hk;refine ⟨fun _=>⟨zn (by omega) (by omega),_,rfl,T.getD ((i+j) / 2-(A.length+1)) 0#256, ?_,x,by simpa using hax,_,hc _ _,fun h=>?_,fun _=>?_⟩,fun h=>absurd (by omega) (df0 h)⟩
     ·rw [zgg (by omega) (by omega),show ((i:Int)+j) / 2=(((i+j) / 2:Nat):Int) by omega];simpa using hat
     ·exfalso;simp at h hp;omega
     ·rw [zgg (by omega) (by omega),show ((i:Int)+j) / 2=(((i+j) / 2:Nat):Int) by omega];exact hk
   ·refine ⟨fun h=>absurd (dt0 h) (by omega),fun _=>?_⟩;obtain ⟨T1,T2,rfl,hT1⟩:=zf0 T (show i-(A.length+1)≤T.length by omega);have hlt:∀y∈T1,key y<key x:=fun y hy=>by
     obtain ⟨q,hq,rfl⟩:=List.mem_iff_getElem.1 hy;have:=h3 (A.length+1+q) (by omega) (by omega);rw [show A.length+1+q-(A.length+1)=q by omega,getD_l hq] at this;exact of_decide_eq_true this
    have hge:∀y∈T2,key x≤key y:=fun y hy=>by
     obtain ⟨q,hq,rfl⟩:=List.mem_iff_getElem.1 hy;have:=h4 (A.length+1+T1.length+q) (by omega) (by simp;omega);rw [show A.length+1+T1.length+q-(A.length+1)=T1.length+q by omega,getD_r hq] at this;have:=of_decide_eq_false this;omega
    have hres:srt key ([x]++(T1++T2))=T1++x::T2:=by
     refine (zim (Srt.app.2 ⟨(Srt.app.1 hT).1,Srt.cons.2 ⟨hge,(Srt.app.1 hT).2.1⟩,fun p hp q hq=>?_⟩) ?_).symm
     ·rcases List.mem_cons.1 hq with rfl | hq
      ·exact Int.le_of_lt (hlt p hp)
      ·exact (Srt.app.1 hT).2.2 p hp q hq
     ·have e1:SEq key ([x]++T1) (T1++[x]):=zjp fun a ha b hb=>by simp at ha;subst ha;have:=hlt b hb;omega
      simpa using e1.app (SEq.refl key T2)
    rw [hres];have:=sm_l1 (A:=A) (B:=T2++B) (x:=x) (i:=(i:Int)) (X:=zd.j1 (A++(T1++x::T2)++B)) T1 [] (by simp;omega) (by simp at hl ⊢;omega) (by simp [zd.j1]);show ∃k15,zd.l1 (i:Int) _ k15 _ _;simpa using this
  ·-- one thing behind
   have ht1:T.length=1:=by simp at h2;omega
   obtain ⟨y,rfl⟩:=List.length_eq_one_iff.1 ht1;refine bsearch (P:=fun k i j=>zd.l4 (A++S++[y]++B) ((A.length+S.length:Nat):Int) cmp _ k i j) (fun c=>!decide (key y<key (S.getD (c-A.length) 0#256))) A.length (A.length+S.length) (fun c d h1 h2 h3 h4=>?_) (fun k i j h1 h2 h3=>?_) (fun k i h1 h2 h3 h4=>?_) (by omega)
   ·have:=gd_le hS (i:=c-A.length) (j:=d-A.length) (by omega) (by omega);simp only [Bool.not_eq_true',decide_eq_false_iff_not] at h4 ⊢;omega
   ·have hat:=atS ((i+j) / 2) (by omega) (by omega);have hay:=atT (A.length+S.length) (Nat.le_refl _) (by simp);constructor
    ·intro hp hk;refine ⟨fun _=>⟨zn (by omega) (by omega),_,rfl,y,by simpa using hay,S.getD ((i+j) / 2-A.length) 0#256, ?_,_,hc _ _,fun _=>⟨?_, ?_⟩,fun h=>?_⟩,fun h=>absurd (by omega) (df0 h)⟩
     ·rw [zgg (by omega) (by omega),show ((i:Int)+j) / 2=(((i+j) / 2:Nat):Int) by omega];exact hat
     ·rw [zgg (by omega) (by omega)];exact zn (by omega) (by omega)
     ·rw [zgg (by omega) (by omega),show ((i:Int)+j) / 2+1=(((i+j) / 2+1:Nat):Int) by omega];exact hk
     ·exfalso;simp only [Bool.not_eq_true',Bool.not_eq_false',decide_eq_true_eq,decide_eq_false_iff_not] at h hp;omega
    ·intro hp hk;refine ⟨fun _=>⟨zn (by omega) (by omega),_,rfl,y,by simpa using hay,S.getD ((i+j) / 2-A.length) 0#256, ?_,_,hc _ _,fun h=>?_,fun _=>?_⟩,fun h=>absurd (by omega) (df0 h)⟩
     ·rw [zgg (by omega) (by omega),show ((i:Int)+j) / 2=(((i+j) / 2:Nat):Int) by omega];exact hat
     ·exfalso;simp only [Bool.not_eq_true',Bool.not_eq_false',decide_eq_true_eq,decide_eq_false_iff_not] at h hp;omega
     ·rw [zgg (by omega) (by omega),show ((i:Int)+j) / 2=(((i+j) / 2:Nat):Int) by omega];exact hk
   ·refine ⟨fun h=>absurd (dt0 h) (by omega),fun _=>?_⟩;obtain ⟨S1,S2,rfl,hS1⟩:=zf0 S (show i-A.length≤S.length by omega);have hle:∀x∈S1,key x≤key y:=fun x hx=>by
     obtain ⟨q,hq,rfl⟩:=List.mem_iff_getElem.1 hx;have:=h3 (A.length+q) (by omega) (by omega);rw [show A.length+q-A.length=q by omega,getD_l hq] at this;simp only [Bool.not_eq_true',decide_eq_false_iff_not] at this;omega
    have hgt:∀x∈S2,key y<key x:=fun x hx=>by
     obtain ⟨q,hq,rfl⟩:=List.mem_iff_getElem.1 hx;have:=h4 (A.length+S1.length+q) (by omega) (by simp;omega);rw [show A.length+S1.length+q-A.length=S1.length+q by omega,getD_r hq] at this;simpa using this
    have hres:srt key ((S1++S2)++[y])=S1++y::S2:=by
     refine (zim (Srt.app.2 ⟨(Srt.app.1 hS).1,Srt.cons.2 ⟨fun q hq=>Int.le_of_lt (hgt q hq),(Srt.app.1 hS).2.1⟩,fun p hp q hq=>?_⟩) ?_).symm
     ·rcases List.mem_cons.1 hq with rfl | hq
      ·exact hle p hp
      ·exact (Srt.app.1 hS).2.2 p hp q hq
     ·have e1:SEq key (S2++[y]) ([y]++S2):=zjp fun a ha b hb=>by simp at hb;subst hb;have:=hgt a ha;omega
      simpa using (SEq.refl key S1).app e1
    rw [hres];have:=sm_l3 (A:=A++S1) (B:=B) (x:=y) (i:=(i:Int)) (X:=zd.j3 (A++(S1++y::S2)++B)) S2.length S2 [] rfl (by simp;omega) (by simp at hl ⊢;omega) (by simp [zd.j3]);show ∃k66,zd.l3 (i:Int) _ k66 _ _;have e:(((A++S1).length+S2.length:Nat):Int)=((A.length+(S1++S2).length:Nat):Int):=by simp;omega
    rw [e] at this;simpa using this
  ·-- both longer
   have hs2:2≤S.length:=by simp at h1;omega
   have ht2:2≤T.length:=by simp at h2;omega
   obtain ⟨mid,hmid⟩:∃mid:Nat,mid=(A.length+(A.length+S.length+T.length)) / 2:=⟨_,rfl⟩;have hmidI:IntKind.wrap .i64 (shrI (IntKind.wrap .u64 ((A.length:Int)+((A.length+S.length+T.length:Nat):Int))) 1)=(mid:Int):=by
    rw [zgg (by omega) (by omega)];omega
   refine ⟨_,rfl, ?_⟩;rw [hmidI];have main:∀(lo hi:Nat),(lo=A.length∨lo+(A.length+S.length+T.length)=mid+(A.length+S.length))→A.length≤lo→mid+(A.length+S.length)≤lo+(A.length+S.length+T.length)→(hi=mid∨hi=A.length+S.length)→hi≤mid→hi≤A.length+S.length→lo≤hi →
     zd.j8 (zd.n f) (A++S++T++B) (A.length:Int) ((A.length+S.length:Nat):Int) ((A.length+S.length+T.length:Nat):Int) cmp (A++srt key (S++T)++B) (mid:Int) (lo:Int) (hi:Int):=by
    intro lo hi hlo hla hlb hhi hhm hhs hle;refine ⟨zn (by omega) (by omega), ?_⟩;refine bsearch (P:=fun k i j=>zd.l5 (A++S++T++B) ((A.length+S.length:Nat):Int) cmp (mid:Int) _ k i j) (fun c=>!decide (key (T.getD (mid-1-c) 0#256)<key (S.getD (c-A.length) 0#256))) lo hi (fun c d h1 h2 h3 h4=>?_) (fun k i j h1 h2 h3=>?_) (fun k st h1 h2 h3 h4=>?_) hle
    ·have e1:=gd_le hS (i:=c-A.length) (j:=d-A.length) (by omega) (by omega);have e2:=gd_le hT (i:=mid-1-d) (j:=mid-1-c) (by omega) (by omega);simp only [Bool.not_eq_true',decide_eq_false_iff_not] at h4 ⊢;omega
    ·have hat:=atS ((i+j) / 2) (by omega) (by omega);have hay:=atT (mid+(A.length+S.length)-1-(i+j) / 2) (by omega) (by omega);rw [show mid+(A.length+S.length)-1-(i+j) / 2-(A.length+S.length)=mid-1-(i+j) / 2 by omega] at hay;have hpc:(mid:Int)+((A.length+S.length:Nat):Int)-1-(((i+j) / 2:Nat):Int)=((mid+(A.length+S.length)-1-(i+j) / 2:Nat):Int):=by omega
     have hh:IntKind.wrap .i64 (shrI (IntKind.wrap .u64 ((i:Int)+(j:Int))) 1)=(((i+j) / 2:Nat):Int):=by rw [zgg (by omega) (by omega)];omega
     constructor
     ·intro hp hk;refine ⟨fun _=>⟨zn (by omega) (by omega),_,rfl, ?_⟩,fun h=>absurd (by omega) (df0 h)⟩;rw [hh,hpc];refine ⟨zn (by omega) (by omega),_,hay,_,hat,_,hc _ _,fun _=>⟨zn (by omega) (by omega),by simpa using hk⟩,fun h=>?_⟩;exfalso;simp only [Bool.not_eq_true',Bool.not_eq_false',decide_eq_true_eq,decide_eq_false_iff_not] at h hp;omega
     ·intro hp hk;refine ⟨fun _=>⟨zn (by omega) (by omega),_,rfl, ?_⟩,fun h=>absurd (by omega) (df0 h)⟩;rw [hh,hpc];refine ⟨zn (by omega) (by omega),_,hay,_,hat,_,hc _ _,fun h=>?_,fun _=>hk⟩;exfalso;simp only [Bool.not_eq_true',Bool.not_eq_false',decide_eq_true_eq,decide_eq_false_iff_not] at h hp;omega
    ·refine ⟨fun h=>absurd (dt0 h) (by omega),fun _=>?_⟩;obtain ⟨S1,S2,rfl,hS1⟩:=zf0 S (show st-A.length≤S.length by omega);obtain ⟨T1,T2,rfl,hT1⟩:=zf0 T (show mid-st≤T.length by omega);simp only [List.length_append] at hmid hs2 ht2 hlo hla hlb hhi hhm hhs hf hl hS1 hT1 ⊢;refine sym_j7 (key:=key) ih hS hT hlen (fun t ht s hs=>?_) (fun s hs t ht=>?_) (by omega) (by omega) (by omega) (by omega) (by omega) (by omega)
     ·-- what stands ahead of the middle behind is less
      have hs2:0<S2.length:=List.length_pos_iff.2 (List.ne_nil_of_mem hs);have ht1:0<T1.length:=List.length_pos_iff.2 (List.ne_nil_of_mem ht);obtain ⟨q,hq,rfl⟩:=List.mem_iff_getElem.1 ht;obtain ⟨r,hr,rfl⟩:=List.mem_iff_getElem.1 hs;have hp:=h4 st (Nat.le_refl _) (by omega);rw [show mid-1-st=T1.length-1 by omega,show st-A.length=S1.length+0 by omega,getD_l (by omega),getD_r hs2] at hp;have e1:=zot (Srt.app.1 hT).1 (i:=q) (j:=T1.length-1) (by omega) (by omega);have e2:=zot (Srt.app.1 hS).2.1 (i:=0) (j:=r) (by omega) hr;simp only [Bool.not_eq_false',decide_eq_true_eq] at hp;omega
     ·have hs1:0<S1.length:=List.length_pos_iff.2 (List.ne_nil_of_mem hs);have ht2:0<T2.length:=List.length_pos_iff.2 (List.ne_nil_of_mem ht);obtain ⟨q,hq,rfl⟩:=List.mem_iff_getElem.1 ht;obtain ⟨r,hr,rfl⟩:=List.mem_iff_getElem.1 hs;have hp:=h3 (st-1) (by omega) (by omega);rw [show mid-1-(st-1)=T1.length+0 by omega,show st-1-A.length=S1.length-1 by omega,getD_r ht2,getD_l (X:=S1) (q:=S1.length-1) (by omega)] at hp;have e1:=zot (Srt.app.1 hT).2.1 (i:=0) (j:=q) (by omega) hq;have e2:=zot (Srt.app.1 hS).1 (i:=r) (j:=S1.length-1) (by omega) (by omega);simp only [Bool.not_eq_true',decide_eq_false_iff_not] at hp;omega
   refine ⟨zn (by omega) (by omega),fun h=>⟨zn (by omega) (by omega), ?_⟩,fun h=>?_⟩
   ·have hlt:mid<A.length+S.length:=by have:=dt0 h;omega
    have:=main (mid+(A.length+S.length)-(A.length+S.length+T.length)) mid (by omega) (by omega) (by omega) (.inl rfl) (Nat.le_refl _) (by omega) (by omega);rw [show ((mid+(A.length+S.length)-(A.length+S.length+T.length):Nat):Int)=(mid:Int)+((A.length+S.length:Nat):Int)-((A.length+S.length+T.length:Nat):Int) by omega] at this;exact this
   ·have hge:¬ mid<A.length+S.length:=by have:=df0 h;omega
    exact main A.length (A.length+S.length) (.inl rfl) (Nat.le_refl _) (by omega) (.inr rfl) (by omega) (Nat.le_refl _) (by omega)
def BS (key:Cl→Int) (n:Nat) (l:List Cl):Prop:=∀(i j:Nat) (hj:j<l.length) (hi:i≤j),i / n=j / n→key (l[i]'(by omega))≤key l[j]
theorem BS.of_srt {key:Cl→Int} {n:Nat} {l:List Cl} (h:Srt key l):BS key n l:=fun i j hj hi _=>zot h hi hj
theorem BS.srt {key:Cl→Int} {n:Nat} {l:List Cl} (h:BS key n l) (hl:l.length≤n):Srt key l:=by
 refine List.pairwise_iff_getElem.2 fun i j hi hj hij=>h i j hj (Nat.le_of_lt hij) ?_;rw [Nat.div_eq_of_lt (by omega),Nat.div_eq_of_lt (by omega)]
theorem BS.app {key:Cl→Int} {n q:Nat} {P Q:List Cl} (hn:0<n) (hP:P.length=q*n) (h1:BS key n P) (h2:BS key n Q):BS key n (P++Q):=fun i j hj hi he=>by
 by_cases hjp:j<P.length
 ·rw [List.getElem_append_left (by omega),List.getElem_append_left hjp];exact h1 i j hjp hi he
 ·have hq:q≤j / n:=by rw [Nat.le_div_iff_mul_le hn];omega
  have hip:P.length≤i:=by
   rcases Nat.lt_or_ge i P.length with h | h
   ·have:i / n<q:=by rw [Nat.div_lt_iff_lt_mul hn];omega
    omega
   ·exact h
  rw [List.getElem_append_right hip,List.getElem_append_right (by omega)];refine h2 (i-P.length) (j-P.length) (by simp at hj;omega) (by omega) ?_;have e1:i=(i-P.length)+q*n:=by omega
  have e2:j=(j-P.length)+q*n:=by omega
  rw [e1,e2,Nat.add_mul_div_right _ _ hn,Nat.add_mul_div_right _ _ hn] at he;omega
theorem BS.left {key:Cl→Int} {n:Nat} {P Q:List Cl} (h:BS key n (P++Q)):BS key n P:=fun i j hj hi he=>by
 have:=h i j (by simp;omega) hi he
 rwa [List.getElem_append_left (by omega),List.getElem_append_left hj] at this
theorem BS.right {key:Cl→Int} {n q:Nat} {P Q:List Cl} (hn:0<n) (hP:P.length=q*n) (h:BS key n (P++Q)):BS key n Q:=fun i j hj hi he=>by
 have:=h (P.length+i) (P.length+j) (by simp;omega) (by omega) (by rw [hP,Nat.add_comm,Nat.add_comm (q*n) j,Nat.add_mul_div_right _ _ hn,Nat.add_mul_div_right _ _ hn,he]);rw [List.getElem_append_right (by omega),List.getElem_append_right (by omega)] at this;simpa using this
theorem sym_in {key:Cl→Int} {cmp:Cl × Cl × Int→Prop} (hc:zqz key cmp) {A S T B:List Cl} {a m b:Int} (ha:a=(A.length:Int)) (hm:m=((A.length+S.length:Nat):Int)) (hb:b=((A.length+S.length+T.length:Nat):Int)) (hS:S≠[]) (hT:T≠[]) (h1:Srt key S) (h2:Srt key T)
  (hl:(A++S++T++B).length<4611686018427387904):zd (A++S++T++B) a m b cmp (A++srt key (S++T)++B):=by
 subst ha;subst hm;subst hb;exact ⟨_,sym_n hc _ A S T B (Nat.le_refl _) hS hT h1 h2 hl⟩
section
variable {key : Cl → Int} {cmp : Cl × Cl × Int → Prop} {xs : List Cl} {r : List Cl}
theorem st_l2 (hc:zqz key cmp) (hn:xs.length<1152921504606846976) {bs:Nat} (hbs:0<bs) (hbn:bs<xs.length) {L1:List Cl→Int→Prop} (hL:∀Q,BS key (2*bs) Q→SEq key xs Q→L1 Q ((bs:Int)*2)):
  ∀(f:Nat) (P R:List Cl) (q:Nat),R.length≤f→P.length=q*(2*bs)→BS key (2*bs) P→BS key bs R→SEq key xs (P++R) →
   ∃k,zf.l2 (xs.length:Int) cmp (bs:Int) (zf.j2 L1 (xs.length:Int) cmp (bs:Int)) k (P++R) (P.length:Int) ((P.length:Int)+2*(bs:Int)):=by
 intro f
 induction f with
 | zero=>
  intro P R q hf hP h1 h2 h3;have:=List.eq_nil_of_length_eq_zero (show R.length=0 by omega);subst this;have hl:=h3.length;simp at hl;refine ⟨1,fun h=>absurd (dt0 h) (by omega),fun _=>⟨zn (by omega) (by omega),fun h=>absurd (dt0 h) (by omega),fun _=>⟨zn (by omega) (by omega), ?_⟩⟩⟩;rw [List.append_nil] at h3 ⊢;exact hL P h1 h3
 | succ f ih=>
  intro P R q hf hP h1 h2 h3;have hl:=h3.length;simp at hl
  by_cases hle:P.length+2*bs≤xs.length
  ·obtain ⟨S,R1,rfl,hS⟩:=zf0 R (show bs≤R.length by omega);simp at hl;obtain ⟨T,R2,rfl,hT⟩:=zf0 R1 (show bs≤R1.length by omega);simp at hl hf;have hSs:=h2.left.srt (by omega);have h2':=BS.right hbs (q:=1) (by omega) h2;have hTs:=h2'.left.srt (by omega);have h2'':=BS.right hbs (q:=1) (by omega) h2';have hP2:(P++srt key (S++T)).length=(q+1)*(2*bs):=by simp [zhi,hP,Nat.add_mul];omega
   obtain ⟨k,hk⟩:=ih (P++srt key (S++T)) R2 (q+1) (by omega) hP2 (BS.app (by omega) hP h1 (BS.of_srt (ziy _ _))) h2'' (h3.trans (by
    have:=(SEq.refl key P).app ((zgs key (S++T)).app (SEq.refl key R2));simpa using this))
   refine ⟨k+1,fun _=>⟨zn (by omega) (by omega),P++srt key (S++T)++R2, ?_,zn (by omega) (by omega),zn (by omega) (by omega), ?_⟩,fun h=>absurd (by omega) (df0 h)⟩
   ·have:=sym_in hc (A:=P) (S:=S) (T:=T) (B:=R2) (a:=(P.length:Int)) (m:=(P.length:Int)+(bs:Int)) (b:=(P.length:Int)+2*(bs:Int)) rfl (by omega) (by omega) (by rintro rfl;simp at hS;omega) (by rintro rfl;simp at hT;omega) hSs hTs (by simp;omega);simpa using this
   ·have e:(((P++srt key (S++T)).length:Nat):Int)=(P.length:Int)+2*(bs:Int):=by simp [zhi];omega
    rw [e] at hk;exact hk
  ·by_cases hm:P.length+bs<xs.length
   ·obtain ⟨S,T,rfl,hS⟩:=zf0 R (show bs≤R.length by omega);simp at hl;have hSs:=h2.left.srt (by omega);have hTs:=(BS.right hbs (q:=1) (by omega) h2).srt (by omega);refine ⟨1,fun h=>absurd (dt0 h) (by omega),fun _=>⟨zn (by omega) (by omega),fun _=>⟨P++srt key (S++T)++[], ?_,zn (by omega) (by omega), ?_⟩,fun h=>absurd (by omega) (df0 h)⟩⟩
    ·have:=sym_in hc (A:=P) (S:=S) (T:=T) (B:=[]) (a:=(P.length:Int)) (m:=(P.length:Int)+(bs:Int)) (b:=(xs.length:Int)) rfl (by omega) (by omega) (by rintro rfl;simp at hS;omega) (by rintro rfl;simp at hl;omega) hSs hTs (by simp;omega);simpa using this
    ·rw [List.append_nil];exact hL _ (BS.app (by omega) hP h1 (BS.of_srt (ziy _ _))) (h3.trans (by
      have:=(SEq.refl key P).app (zgs key (S++T));simpa using this))
   ·refine ⟨1,fun h=>absurd (dt0 h) (by omega),fun _=>⟨zn (by omega) (by omega),fun h=>absurd (dt0 h) (by omega),fun _=>⟨zn (by omega) (by omega), ?_⟩⟩⟩;exact hL _ (BS.app (by omega) hP h1 (BS.of_srt (h2.srt (by omega)))) h3
theorem st_l1 (hc:zqz key cmp) (hn:xs.length<1152921504606846976):∀(f:Nat) (bs:Nat) (Q:List Cl),xs.length-bs≤f→0<bs→BS key bs Q→SEq key xs Q →
  zf.l1 (xs.length:Int) cmp (zf.j1 (srt key xs)) (f+1) Q (bs:Int):=by
 intro f
 induction f with
 | zero=>
  intro bs Q hf hbs h1 h2;have hl:=h2.length;exact ⟨fun h=>absurd (dt0 h) (by omega),fun _=>(zim (h1.srt (by omega)) h2).symm⟩
 | succ f ih=>
  intro bs Q hf hbs h1 h2;have hl:=h2.length
  by_cases hlt:bs<xs.length
  ·refine ⟨fun _=>⟨zn (by omega) (by omega), ?_⟩,fun h=>absurd (by omega) (df0 h)⟩;have:=st_l2 hc hn hbs hlt (L1:=zf.l1 (xs.length:Int) cmp (zf.j1 (srt key xs)) (f+1)) (fun Q' hb hs=>by
    have:=ih (2*bs) Q' (by omega) (by omega) hb hs
    rwa [show (((2*bs:Nat)):Int)=(bs:Int)*2 by omega] at this) Q.length [] Q 0 (Nat.le_refl _) (by simp) (fun i j hj=>by simp at hj) h1 (by simpa using h2)
   simpa using this
  ·exact ⟨fun h=>absurd (dt0 h) (by omega),fun _=>(zim (h1.srt (by omega)) h2).symm⟩
theorem st_l3 (hc:zqz key cmp) (hn:xs.length<1152921504606846976):∀(f:Nat) (P R:List Cl) (q:Nat),R.length≤f→P.length=q*20→BS key 20 P→SEq key xs (P++R) →
  ∃k,zf.l3 (xs.length:Int) cmp (zf.j3 (xs.length:Int) cmp (srt key xs)) k (P++R) (P.length:Int) ((P.length:Int)+20):=by
 intro f;have fin:∀(P R:List Cl) (q:Nat),P.length=q*20→BS key 20 P→SEq key xs (P++R)→R.length≤20→zf.j3 (xs.length:Int) cmp (srt key xs) (P++R) (P.length:Int):=by
  intro P R q hP h1 h3 hR;have hl:=h3.length;simp at hl;have:=ins_in hc (A:=P) (S:=R) (B:=[]) (a:=(P.length:Int)) (b:=(xs.length:Int)) rfl (by omega) (by simp;omega);refine ⟨P++srt key R,by simpa using this,_,st_l1 hc hn xs.length 20 _ (by omega) (by omega) (BS.app (by omega) hP h1 (BS.of_srt (ziy _ _))) (h3.trans ((SEq.refl key P).app (zgs key R)))⟩
 induction f with
 | zero=>
  intro P R q hf hP h1 h3;have hl:=h3.length;simp at hl;exact ⟨1,fun h=>absurd (dt0 h) (by omega),fun _=>fin P R q hP h1 h3 (by omega)⟩
 | succ f ih=>
  intro P R q hf hP h1 h3;have hl:=h3.length;simp at hl
  by_cases hle:P.length+20≤xs.length
  ·obtain ⟨S,R1,rfl,hS⟩:=zf0 R (show 20≤R.length by omega);simp at hl hf;have hP2:(P++srt key S).length=(q+1)*20:=by simp [zhi,hP,Nat.add_mul];omega
   obtain ⟨k,hk⟩:=ih (P++srt key S) R1 (q+1) (by omega) hP2 (BS.app (by omega) hP h1 (BS.of_srt (ziy _ _))) (h3.trans (by
    have:=(SEq.refl key P).app ((zgs key S).app (SEq.refl key R1));simpa using this))
   refine ⟨k+1,fun _=>⟨P++srt key S++R1, ?_,zn (by omega) (by omega), ?_⟩,fun h=>absurd (by omega) (df0 h)⟩
   ·have:=ins_in hc (A:=P) (S:=S) (B:=R1) (a:=(P.length:Int)) (b:=(P.length:Int)+20) rfl (by omega) (by simp;omega);simpa using this
   ·have e:(((P++srt key S).length:Nat):Int)=(P.length:Int)+20:=by simp [zhi];omega
    rw [e] at hk;exact hk
  ·exact ⟨1,fun h=>absurd (dt0 h) (by omega),fun _=>fin P R q hP h1 h3 (by omega)⟩
theorem stable_in (hc:zqz key cmp) (hn:xs.length<1152921504606846976):zbs xs cmp (srt key xs):=by
 have:=st_l3 hc hn xs.length [] xs 0 (Nat.le_refl _) (by simp) (fun i j hj=>by simp at hj) (SEq.refl _ _);refine ⟨_, ?_,rfl⟩;unfold zf;simpa using this
end
end Go.Proofs.YtahgmdbioafmbaaGreatDoor.V
namespace Go.Proofs.YtahgmdbioafmbaaGreatDoor.V
open Go
set_option linter.unusedVariables false
theorem lk0_le (p:Cl):0≤lk0 p∧lk0 p≤255:=by
 unfold lk0
 by_cases h:0<p.count
 ·obtain ⟨n,h1,h2,_,_⟩:=zqd h;rw [h2];simp;omega
 ·have:p.least=(0,false):=zih fun m hm=>by
   cases hb:p.has m
   ·rfl
   ·exact absurd (count_pos hm hb) h
  rw [this];simp
theorem split_cmp:zqz lk0 (fun q_=>ze7 q_.1 q_.2.1 (fun q_=>zeo q_.1 q_.2) q_.2.2):=fun x y=>by
 have h1:=lk0_le x;have h2:=lk0_le y;exact ⟨lk0 x,⟨_,zhs,rfl⟩,lk0 y,⟨_,zhs,rfl⟩,zn (by omega) (by omega),rfl⟩
theorem flat_len2 (a:Cl) (l:List Cl):(l.flatMap (zha a)).length≤2*l.length:=by
 induction l with
 | nil=>simp
 | cons p l ih=>
  rw [List.flatMap_cons,List.length_append];have:(zha a p).length≤2:=by
   have:=List.length_filter_le (fun q:Cl=>decide (0<q.count)) [p &&& a,p &&& ~~~ a];simpa [zha] using this
  rw [List.length_cons];omega
theorem zmz {ps:List Cl} {a:Cl} (hl:ps.length≤1073741823):zba ps a (zm0 ps a):=by
 refine zg1 (P:=fun k (s:List Cl) v=>zba.l1 ps a _ k s v) ps.length (fun i s=>s=(ps.take i).flatMap (zha a)) ?_ ?_ _ (by simp)
 ·rintro i s hi rfl;refine .inr ⟨_,rfl,fun k h=>⟨fun _=>⟨ps[i],by rw [zci];simp [hi],_,zld,_,zl9,_,zld, ?_⟩,fun h=>absurd (by omega) (df h)⟩⟩;have hb:=flat_len2 a (ps.take i);simp only [List.length_take] at hb;refine zg1 (P:=fun k (s:List Cl) v=>zba.l2 _ _ _ k s v) 2 (fun j s=>s=(ps.take i).flatMap (zha a)++([ps[i] &&& a,ps[i] &&& ~~~ a].take j).filter fun q=>decide (0<q.count)) ?_ ?_ _ (by simp)
  ·rintro j s hj rfl;have hlen:(([ps[i] &&& a,ps[i] &&& ~~~ a].take j).filter fun q=>decide (0<q.count)).length≤1:=by
    have:=List.length_filter_le (fun q:Cl=>decide (0<q.count)) ([ps[i] &&& a,ps[i] &&& ~~~ a].take j);simp at this;omega
   refine .inr ⟨_,rfl,fun k h=>⟨fun _=>⟨[ps[i] &&& a,ps[i] &&& ~~~ a][j],by rw [zci];simp [hj],_,zon,fun hc=>?_,fun hc=>?_⟩,fun h=>absurd (by simp;omega) (df h)⟩⟩
   ·have hc:=dt hc;rw [List.take_succ_eq_append_getElem (by simpa using hj),List.filter_append,List.filter_cons_of_pos (by simp;omega),List.filter_nil,← List.append_assoc] at h;exact ⟨by simp only [List.length_append,List.length_cons,List.length_nil];omega,zn (by omega) (by omega),h⟩
   ·have hc:=df hc;rw [List.take_succ_eq_append_getElem (by simpa using hj),List.filter_append,List.filter_cons_of_neg (by simp;omega),List.filter_nil,List.append_nil] at h;exact ⟨zn (by omega) (by omega),h⟩
  ·rintro s rfl k2;refine ⟨fun h=>absurd (dt h) (by simp),fun _=>⟨zn (by omega) (by omega), ?_⟩⟩;rw [List.take_succ_eq_append_getElem hi,List.flatMap_append] at h;simpa [zha] using h
 ·rintro s rfl k;refine ⟨fun h=>absurd (dt h) (by omega),fun _=>⟨_,stable_in split_cmp ?_, ?_⟩⟩
  ·have:=flat_len2 a (ps.take ps.length);simp only [List.length_take,Nat.min_self] at this;omega
  ·simp [zm0]
theorem zm1 (l:List Cl) (i:Nat):(zg6 (l.take i)).length≤256:=by
 rw [splitP_eq];have:=heads_len (l.take i);simpa [parts] using this
theorem zn2 {l:List Cl} (hl:l.length≤1073741823):zcs l (zg6 l):=by
 refine ⟨_,zl9, ?_⟩;refine zg1 (P:=fun k (s:List Cl) v=>zcs.l1 l _ k s v) l.length (fun i s=>s=zg6 (l.take i)) ?_ ?_ _ (by simp [zg6])
 ·rintro i s hi rfl;have:=zm1 l i;refine .inr ⟨_,rfl,fun k h=>⟨fun _=>⟨l[i],by rw [zci];simp [hi],_,zmz (by omega),zn (by omega) (by omega), ?_⟩,fun h=>absurd (by omega) (df h)⟩⟩;have e:zg6 (l.take i++[l[i]])=zm0 (zg6 (l.take i)) l[i]:=by unfold zg6;rw [List.foldl_append];rfl
  rw [List.take_succ_eq_append_getElem hi,e] at h;exact h
 ·rintro s rfl k;exact ⟨fun h=>absurd (dt h) (by omega),fun _=>by rw [List.take_length];rfl⟩
theorem zn4 {l:List Cl} (hl:l.length≤1073741823):zct l (zm2 l):=by
 refine ⟨_,zn2 hl, ?_⟩;have hlen:=zm1 l l.length;rw [List.take_length] at hlen;refine zg1 (P:=fun k (s:List Int) v=>zct.l1 (zg6 l) _ k s v) (zg6 l).length (fun i s=>s=((zg6 l).take i).map lk0) ?_ ?_ _ (by simp)
 ·rintro i s hi rfl;refine .inr ⟨_,rfl,fun k h=>⟨fun _=>⟨(zg6 l)[i],by rw [zci];simp [hi],_,zhs,by simp;omega,zn (by omega) (by omega), ?_⟩,fun h=>absurd (by omega) (df h)⟩⟩;rw [List.take_succ_eq_append_getElem hi,List.map_append] at h;exact h
 ·rintro s rfl k;exact ⟨fun h=>absurd (dt h) (by omega),fun _=>by rw [List.take_length];rfl⟩
theorem zhl {a b:List Int} (ha:a.length<9223372036854775807):zcf a b (decide (a=b)):=by
 refine ⟨fun h=>?_,fun h=>?_⟩
 ·simp at h;exact decide_eq_false fun e=>by subst e;omega
 ·have hl:a.length=b.length:=by simp at h;omega
  refine zg1 (P:=fun k (_:Unit) v=>zcf.l1 a b (decide (a=b)) _ k v) a.length (fun i _=>∀j (hj:j<i) (h1:j<a.length),a[j]=b[j]'(by omega)) ?_ ?_ () (by intro j hj;omega)
  ·intro i s hi hs;have hat:at? a (i:Int)=some a[i]:=by rw [zci];simp [hi]
   have hbt:at? b (i:Int)=some (b[i]'(by omega)):=by rw [zci];simp [show i<b.length by omega]
   by_cases he:a[i]=b[i]'(by omega)
   ·refine .inr ⟨(),fun j hj h1=>?_,fun k h=>⟨fun _=>⟨_,hat,_,hbt,fun h=>by simp [he] at h,fun _=>⟨zn (by omega) (by omega),h⟩⟩,fun h=>absurd (by omega) (df h)⟩⟩
    by_cases hji:j=i
    ·subst hji;exact he
    ·exact hs j (by omega) h1
   ·exact .inl fun k=>⟨fun _=>⟨_,hat,_,hbt,fun _=>decide_eq_false fun e=>he (by subst e;rfl),fun h=>by simp at h;exact absurd h he⟩,fun h=>absurd (by omega) (df h)⟩
  ·intro s hs k;refine ⟨fun h=>absurd (dt h) (by omega),fun _=>?_⟩;show decide (a=b)=true;exact decide_eq_true (List.ext_getElem hl fun j h1 h2=>hs j h1 h1)
theorem zp2 {l:List Cl} {c d:Nat} (hc:c<256) (hd:d<256) (hl:l.length<9223372036854775807):zdf l (c:Int) (d:Int) (zgf l c d):=by
 refine zg1 (P:=fun k (_:Unit) v=>zdf.l1 l (c:Int) (d:Int) (zgf l c d) _ k v) l.length (fun i _=>∀j (hj:j<i) (h1:j<l.length),l[j].has c=l[j].has d) ?_ ?_ () (by intro j hj;omega)
 ·intro i s hi hs;have hat:at? l (i:Int)=some l[i]:=by rw [zci];simp [hi]
  by_cases he:l[i].has c=l[i].has d
  ·refine .inr ⟨(),fun j hj h1=>?_,fun k h=>⟨fun _=>⟨_,hat,_,zf6 hc,_,hat,_,zf6 hd,fun h=>by simp [he] at h,fun _=>⟨zn (by omega) (by omega),h⟩⟩,fun h=>absurd (by omega) (df h)⟩⟩
   by_cases hji:j=i
   ·subst hji;exact he
   ·exact hs j (by omega) h1
  ·refine .inl fun k=>⟨fun _=>⟨_,hat,_,zf6 hc,_,hat,_,zf6 hd,fun _=>?_,fun h=>by simp at h;exact absurd h he⟩,fun h=>absurd (by omega) (df h)⟩;cases hk:zgf l c d
   ·rfl
   ·unfold zgf at hk;rw [List.all_eq_true] at hk;exact absurd (eq_of_beq (hk _ (List.getElem_mem hi))) he
 ·intro s hs k;refine ⟨fun h=>absurd (dt h) (by omega),fun _=>?_⟩;show zgf l c d=true;unfold zgf;rw [List.all_eq_true];intro a ha;obtain ⟨j,hj,rfl⟩:=List.mem_iff_getElem.1 ha;rw [hs j hj hj];simp
def zea (l:List Cl) (c:Nat):List Nat:=(List.range c).filter fun c=>(List.range c).all fun d=>!zgf l d c
theorem headsTo_len (l:List Cl) (c:Nat):(zea l c).length≤c:=by
 have:=List.length_filter_le (fun c=>(List.range c).all fun d=>!zgf l d c) (List.range c);simpa [zea] using this
theorem zkh {l:List Cl} {c h:Nat}:h∈zea l c↔h<c∧∀d,d<h→zgf l d h=false:=by simp [zea]
theorem head_any {l:List Cl} {c:Nat} (hc:c<256):((zea l c).any fun h=>zgf l h c) = !((List.range c).all fun d=>!zgf l d c):=by
 cases h:(List.range c).all fun d=>!zgf l d c
 ·rw [Bool.not_false,List.any_eq_true];have:∃d,d<c∧zgf l d c=true:=by
   rw [List.all_eq_false] at h;obtain ⟨d,hd,h2⟩:=h;exact ⟨d,by simpa using hd,by simpa using h2⟩
  obtain ⟨d,hd,h2⟩:=this;obtain ⟨e,he,hed,hel⟩:=head_of (l:=l) (c:=d) (by omega);exact ⟨e,zkh.2 ⟨by omega,(zgx.1 he).2⟩,zh3 hel h2⟩
 ·rw [Bool.not_true,List.any_eq_false];rw [List.all_eq_true] at h;intro e he;have:=h e (by simpa using (zkh.1 he).1);simpa using this
theorem headsTo_succ (l:List Cl) (c:Nat):zea l (c+1)=if ((List.range c).all fun d=>!zgf l d c)=true then zea l c++[c] else zea l c:=by
 unfold zea;rw [List.range_succ,List.filter_append];split
 ·rename_i h;rw [List.filter_cons_of_pos (by exact h)];rfl
 ·rename_i h;rw [List.filter_cons_of_neg (by exact h)];simp
theorem zoi {l:List Cl} (hl:l.length<9223372036854775807):zbd l (zm2 l):=by
 rw [zkq];refine zg1 (P:=fun k (s:List Int) v=>zbd.l1 l _ k s v) 256 (fun c s=>s=(zea l c).map (fun n:Nat=>(n:Int))) ?_ ?_ _ (by simp [zea])
 ·rintro c s hc rfl;have hlen:=headsTo_len l c;refine .inr ⟨_,rfl,fun k h=>⟨fun _=>?_,fun h=>absurd (by omega) (df h)⟩⟩;have hbase:∀b:Bool,b=(!(zea l c).any fun h=>zgf l h c)→zbd.j2 (zbd.l1 l (zbd.j1 ((zf8 l).map (fun n:Nat=>(n:Int)))) k) ((zea l c).map (fun n:Nat=>(n:Int))) (c:Int) b:=by
   intro b hb;rw [head_any hc,Bool.not_not] at hb;rw [headsTo_succ,← hb] at h;refine ⟨fun h2=>⟨by simp;omega,zn (by omega) (by omega), ?_⟩,fun h2=>⟨zn (by omega) (by omega), ?_⟩⟩
   ·rw [show (c:Int) % 256=c by omega];rw [if_pos h2] at h;simpa using h
   ·rw [if_neg (by rw [h2];simp)] at h;exact h
  refine zg1 (P:=fun k (s:Bool) v=>zbd.l2 l ((zea l c).map (fun n:Nat=>(n:Int))) (c:Int) _ k s v) (zea l c).length (fun i s=>s = !((zea l c).take i).any fun h=>zgf l h c) ?_ ?_ _ (by simp)
  ·rintro i s hi rfl;cases ha:((zea l c).take i).any fun h=>zgf l h c
   ·refine .inr ⟨_,rfl,fun k2 h3=>⟨fun _=>⟨(((zea l c)[i]:Nat):Int),by rw [zci];simp [hi],zgf l (zea l c)[i] c, ?_,zn (by omega) (by omega), ?_⟩,fun h4=>?_⟩⟩
    ·rw [show (c:Int) % 256=c by omega];exact zp2 (by have:=(zkh.1 (List.getElem_mem hi)).1;omega) hc hl
    ·rw [List.take_succ_eq_append_getElem hi,List.any_append,ha] at h3;simpa using h3
    ·simp [hi] at h4
   ·refine .inl fun k2=>⟨fun h4=>by simp at h4,fun _=>hbase _ ?_⟩;have:((zea l c).any fun h=>zgf l h c)=true:=by
     rw [List.any_eq_true] at ha ⊢;obtain ⟨x,hx,hx2⟩:=ha;exact ⟨x,List.mem_of_mem_take hx,hx2⟩
    rw [this]
  ·rintro s rfl k2;rw [List.take_length];exact ⟨fun h4=>by simp at h4,fun _=>hbase _ rfl⟩
 ·rintro s rfl k;exact ⟨fun h=>absurd (dt h) (by omega),fun _=>rfl⟩
theorem zd0 {α:Type} {xs:List α} {i:Nat} (h:i<xs.length):at? xs (i:Int)=some xs[i]:=by rw [zci];exact List.getElem?_eq_getElem h
theorem zoy {α:Type} [DecidableEq α]:∀{a b:List α},a.Nodup→b.Nodup→(∀x,x∈a↔x∈b)→a.Perm b
 | [],b,_,_,h=>by
  cases b with
  | nil=>exact .refl _
  | cons y b=>exact absurd ((h y).2 (by simp)) (by simp)
 | x::a,b,ha,hb,h=>by
  rw [List.nodup_cons] at ha;have hx:=(h x).1 (by simp);refine (List.Perm.cons x (zoy ha.2 (hb.erase x) fun y=>?_)).trans (List.perm_cons_erase hx).symm;rw [hb.mem_erase_iff];constructor
  ·intro hy;exact ⟨fun e=>ha.1 (by rw [← e];exact hy),(h y).1 (by simp [hy])⟩
  ·rintro ⟨h1,h2⟩;exact (List.mem_cons.1 ((h y).2 h2)).resolve_left h1
theorem item_StartS {d:List SNode} (h:d≠[]) (hl:d.length≤1000):zj1 d (stS d):=by
 have:=List.length_pos_iff.2 h;exact ⟨zn (by omega) (by omega),rfl⟩
theorem zgl {d:List SNode} (h:d≠[]) (hl:d.length≤1000):zfq d [stS d]:=⟨_,item_StartS h hl,rfl⟩
theorem zj9 {d:List SNode} (h:d≠[]) (hl:d.length≤1000):zgu d [stS d]:=by
 have:=List.length_pos_iff.2 h;exact ⟨zn (by omega) (by omega),rfl⟩
def mS (L:List (List SItem)):List (Str × List SItem):=L.foldl (fun m t=>zgi m (keyS t) t) []
theorem mS_snoc (L:List (List SItem)) (t:List SItem):mS (L++[t])=zgi (mS L) (keyS t) t:=by unfold mS;rw [List.foldl_append];rfl
theorem mS_inv (L:List (List SItem)):((mS L).map (·.2)).Nodup∧∀p,p∈mS L↔p.2∈L∧p.1=keyS p.2:=by
 have:∀n (L:List (List SItem)),L.length=n→((mS L).map (·.2)).Nodup∧∀p,p∈mS L↔p.2∈L∧p.1=keyS p.2:=by
  intro n
  induction n with
  | zero=>intro L hL;rw [List.length_eq_zero_iff.1 hL];exact ⟨List.nodup_nil,by simp [mS]⟩
  | succ n ih=>
   intro L hL;have hne:L≠[]:=fun e=>by subst e;simp at hL
   rw [← List.dropLast_concat_getLast hne];obtain ⟨i1,i2⟩:=ih L.dropLast (by simp [hL]);generalize L.dropLast=A at *;generalize L.getLast hne=t at *;rw [mS_snoc];unfold zgi;cases hh:zh6 (mS A) (keyS t)
   ·simp only [cond_false];have hno:t ∉ A:=fun h=>by
     have h1:=(i2 (keyS t,t)).2 ⟨h,rfl⟩;have:zh6 (mS A) (keyS t)=true:=by
      unfold zh6;rw [List.any_eq_true];exact ⟨_,h1,by simp⟩
     rw [hh] at this;cases this
    refine ⟨?_,fun p=>?_⟩
    ·rw [List.map_append,List.nodup_append];refine ⟨i1,by simp,fun a ha b hb e=>?_⟩;simp at hb;subst hb;subst e;obtain ⟨p,hp,rfl⟩:=List.mem_map.1 ha;exact hno ((i2 p).1 hp).1
    ·rw [List.mem_append,i2,List.mem_singleton,List.mem_append,List.mem_singleton];constructor
     ·rintro (⟨h1,h2⟩ | rfl)
      ·exact ⟨.inl h1,h2⟩
      ·exact ⟨.inr rfl,rfl⟩
     ·rintro ⟨h1 | h1,h2⟩
      ·exact .inl ⟨h1,h2⟩
      ·exact .inr (Prod.ext (by rw [h2,h1]) h1)
   ·have hh':=hh;unfold zh6 at hh';rw [List.any_eq_true] at hh';obtain ⟨q,hq1,hq2⟩:=hh';have hqk:q.1=keyS t:=by simpa using hq2
    have hq3:=(i2 q).1 hq1;have hqt:q.2=t:=zhc.1 (by rw [← hq3.2,hqk]);have hta:t∈A:=by rw [← hqt];exact hq3.1
    simp only [cond_true];have hmap:∀f:Str × List SItem→Str × List SItem,(∀p∈mS A,f p=p)→(mS A).map f=mS A:=fun f hf=>by
     conv=>rhs;rw [← List.map_id (mS A)]
     exact List.map_congr_left hf
    rw [hmap _ fun p hp=>?_]
    rotate_left
    ·by_cases hpk:p.1=keyS t
     ·have hp3:=(i2 p).1 hp;have:p.2=t:=zhc.1 (by rw [← hp3.2,hpk]);have e:p=(keyS t,t):=Prod.ext hpk this;rw [e];simp
     ·exact (congrArg (fun b=>bif b then (keyS t,t) else p) (decide_eq_false hpk)).trans rfl
    refine ⟨i1,fun p=>?_⟩;rw [i2,List.mem_append,List.mem_singleton];constructor
    ·rintro ⟨h1,h2⟩;exact ⟨.inl h1,h2⟩
    ·rintro ⟨h1 | h1,h2⟩
     ·exact ⟨h1,h2⟩
     ·exact ⟨by rw [h1];exact hta,h2⟩
 exact this _ L rfl
structure Room (d:List SNode) (c:Int) (l:List (List SItem)):Prop where
 sm:∀s∈l,Sm d s
 len:l.length≤2000000000
 cov:∃K:List (List SItem),K.length≤2000000000∧∀s∈l,∀t∈zei d c s,t∈K
theorem zjk {d:List SNode} {s:List SItem} (h:Sm d s) {c:Int} (hc:InR .u8 c) {t:List SItem} (ht:t∈zei d c s):t.length≤1000:=by
 have:=(step_ok h.rt.toROk h.form hc t ht).2;have:=h.slen;have:=h.len;omega
theorem zjo {d:List SNode} {l:List (List SItem)} {c:Int} (hr:Room d c l) (hc:InR .u8 c):zcd d l c (onS d c l):=by
 have hll:=hr.len;obtain ⟨K,k1,k2⟩:=hr.cov;refine uptoK (P:=fun k m v=>zcd.l1 d l c _ k m v) l.length (fun i m=>m=mS ((l.take i).flatMap fun s=>zhx (zei d c s))) ?_ ?_ _ (by simp [mS])
 ·rintro i m k hi rfl hk;have hsm:=hr.sm _ (List.getElem_mem hi);obtain ⟨o,o1,_,o3⟩:=on_step hsm hc;have ho:o.map (·.1)=zhx (zei d c l[i]):=can_set o3 fun t=>by rw [← List.count_pos_iff];omega
  have hol:o.length≤2000000000:=by
   have:=zkt (A:=zei d c l[i]) (K:=K) fun t ht=>k2 _ (List.getElem_mem hi) t ht;rw [← ho,List.length_map] at this;omega
  refine ⟨fun _=>⟨_,zd0 hi,o,o1, ?_⟩,fun h=>absurd (by omega) (df h)⟩;refine uptoK (P:=fun k m v=>zcd.l2 o _ k m v) o.length (fun j m=>m=mS (((l.take i).flatMap fun s=>zhx (zei d c s))++(o.map (·.1)).take j)) ?_ ?_ _ (by simp)
  ·rintro j m k' hj rfl hk';have hmem:o[j].1∈zei d c l[i]:=zdy.1 (by rw [← ho];exact List.mem_map.2 ⟨_,List.getElem_mem hj,rfl⟩);have hlen:=zjk hsm hc hmem;refine ⟨fun _=>⟨_,zd0 hj,_,znm hlen,zn (by omega) (by omega),hk' _ ?_⟩,fun h=>absurd (by omega) (df h)⟩;rw [List.take_succ_eq_append_getElem (by simpa using hj),← List.append_assoc,mS_snoc];simp
  ·rintro m rfl k';refine ⟨fun h=>absurd (dt h) (by omega),fun _=>⟨zn (by omega) (by omega),hk _ ?_⟩⟩;rw [List.take_of_length_le (l:=o.map (·.1)) (by simp),List.take_succ_eq_append_getElem hi,List.flatMap_append,ho];simp
 ·rintro m rfl k;refine ⟨fun h=>absurd (dt h) (by omega),fun _=>?_⟩;rw [List.take_length];obtain ⟨i1,i2⟩:=mS_inv (l.flatMap fun s=>zhx (zei d c s));have hmm:∀t,t∈(mS (l.flatMap fun s=>zhx (zei d c s))).map (·.2)↔t∈onS d c l:=fun t=>by
   rw [zlp,List.mem_map];constructor
   ·rintro ⟨p,hp,rfl⟩;obtain ⟨s,h1,h2⟩:=List.mem_flatMap.1 ((i2 p).1 hp).1;exact ⟨s,h1,zdy.1 h2⟩
   ·rintro ⟨s,h1,h2⟩;exact ⟨(keyS t,t),(i2 _).2 ⟨List.mem_flatMap.2 ⟨s,h1,zdy.2 h2⟩,rfl⟩,rfl⟩
  refine ⟨fun b hb=>?_, ?_,zoy (rs_nodup (zf5 _)) i1 fun t=>(hmm t).symm,zf5 _⟩
  ·obtain ⟨s,h1,h2⟩:=zlp.1 ((hmm b).1 hb);exact zjk (hr.sm s h1) hc h2
  ·have:=zki (U:=K) i1 fun t ht=>by
    obtain ⟨s,h1,h2⟩:=zlp.1 ((hmm t).1 ht);exact k2 s h1 t h2
   omega
theorem zm8 {d:List SNode} {l:List (List SItem)} {c:Int} (hr:Room d c l) (hc:InR .u8 c):zbk d l c (onS d c l):=by
 have hll:=hr.len;obtain ⟨K0,k1,k2⟩:=hr.cov;have hK:∃K:List (List SItem),K.length≤2000000000∧(∀t∈K,t.length≤1000)∧∀s∈l,∀t∈zei d c s,t∈K:=
  ⟨K0.filter fun t=>decide (t.length≤1000),Nat.le_trans (List.length_filter_le _ _) k1,fun t ht=>by simpa using (List.mem_filter.1 ht).2,fun s hs t ht=>List.mem_filter.2 ⟨k2 s hs t ht,by simpa using zjk (hr.sm s hs) hc ht⟩⟩
 obtain ⟨K,j1,j2,j3⟩:=hK;have bnd:∀(L:List (List SItem)) (m:List SBranch),(∀t∈L,t∈K)→Can (fun t=>L.count t) m→m.length≤2000000000∧BrOk m:=fun L m hL hm=>by
  refine ⟨Nat.le_trans (znt hm (U:=K) fun t ht=>hL t (List.count_pos_iff.1 (by omega))) j1,fun b hb=>by have:=hm.many hb;omega,fun b hb=>j2 _ (hL _ (List.count_pos_iff.1 ?_))⟩;have:=(hm.many hb).2.1;omega
 have hin:∀i,∀t∈(l.take i).flatMap (fun s=>zhx (zei d c s)),t∈K:=fun i t ht=>by
  obtain ⟨s,h1,h2⟩:=List.mem_flatMap.1 ht;exact j3 s (List.mem_of_mem_take h1) t (zdy.1 h2)
 refine uptoK (P:=fun k m v=>zbk.l2 d l c _ k m v) l.length (fun i m=>Can (fun t=>((l.take i).flatMap fun s=>zhx (zei d c s)).count t) m) ?_ ?_ _ (Can.nil.congr fun t=>by simp)
 ·intro i m k hi hm hk;have hsm:=hr.sm _ (List.getElem_mem hi);obtain ⟨o,_,o1,o3⟩:=on_step hsm hc;have ho:o.map (·.1)=zhx (zei d c l[i]):=can_set o3 fun t=>by rw [← List.count_pos_iff];omega
  have hoK:∀t∈o.map (·.1),t∈K:=fun t ht=>j3 _ (List.getElem_mem hi) t (zdy.1 (by rw [← ho];exact ht));have hol:o.length≤2000000000:=by
   have:=zkt (A:=zei d c l[i]) (K:=K) fun t ht=>j3 _ (List.getElem_mem hi) t ht;rw [← ho,List.length_map] at this;omega
  refine ⟨fun _=>⟨_,zd0 hi,o,o1, ?_⟩,fun h=>absurd (by omega) (df h)⟩;refine uptoK (P:=fun k m v=>zbk.l3 o _ k m v) o.length (fun j m=>Can (fun t=>(((l.take i).flatMap fun s=>zhx (zei d c s))++(o.map (·.1)).take j).count t) m) ?_ ?_ _ (by simpa using hm)
  ·intro j m' k' hj hm' hk';obtain ⟨b1,b2⟩:=bnd _ m' (fun t ht=>(List.mem_append.1 ht).elim (hin i t) fun h=>hoK t (List.mem_of_mem_take h)) hm';have hmem:o[j].1∈K:=hoK _ (List.mem_map.2 ⟨_,List.getElem_mem hj,rfl⟩);refine ⟨fun _=>⟨_,zd0 hj,_,zi4 hm'.srt b2 b1 (j2 _ hmem) (by omega),zn (by omega) (by omega),hk' _ ?_⟩,fun h=>absurd (by omega) (df h)⟩;rw [List.take_succ_eq_append_getElem (by simpa using hj),← List.append_assoc];have:=hm'.add1 o[j].1;simpa using this
  ·intro m' hm' k';refine ⟨fun h=>absurd (dt h) (by omega),fun _=>⟨zn (by omega) (by omega),hk _ ?_⟩⟩;rw [List.take_of_length_le (l:=o.map (·.1)) (by simp),ho] at hm';rw [List.take_succ_eq_append_getElem hi,List.flatMap_append];simpa using hm'
 ·intro m hm k;refine ⟨fun h=>absurd (dt h) (by omega),fun _=>?_⟩;have hb:=(bnd _ m (hin _) hm).1;rw [List.take_length] at hm;have e:m.map (·.1)=onS d c l:=can_set hm fun t=>by
   rw [List.mem_flatMap];constructor
   ·intro h;obtain ⟨s,h1,h2⟩:=List.mem_flatMap.1 (List.count_pos_iff.1 (Nat.pos_of_ne_zero h));exact ⟨s,h1,zdy.1 h2⟩
   ·rintro ⟨s,h1,h2⟩;have:=List.count_pos_iff.2 (List.mem_flatMap (f:=fun s=>zhx (zei d c s)) |>.2 ⟨s,h1,zdy.2 h2⟩);omega
  refine zg1 (P:=fun k out v=>zbk.l1 m _ k out v) m.length (fun i out=>out=(m.take i).map (·.1)) ?_ ?_ _ (by simp)
  ·rintro i out hi rfl;refine .inr ⟨_,rfl,fun k hk=>⟨fun _=>⟨_,zd0 hi,by simp;omega,zn (by omega) (by omega), ?_⟩,fun h=>absurd (by omega) (df h)⟩⟩;rw [List.take_succ_eq_append_getElem hi,List.map_append] at hk;exact hk
  ·rintro out rfl k;refine ⟨fun h=>absurd (dt h) (by omega),fun _=>?_⟩;show onS d c l=_;rw [List.take_length,e]
theorem idxS_in {s:List (List SItem)} {f:List SItem × Bool→Prop} {g:List SItem→Bool} (hf:∀x∈s,f (x,g x)) (hl:s.length≤140737488351232):zbw s f (s.any g):=by
 have key:∃i:Int,zq s f i∧(decide (0≤i))=s.any g:=by
  cases hc:s.any g
  ·refine ⟨-1, ?_,by decide⟩;rw [List.any_eq_false] at hc;refine zg1 (P:=fun k (_:Unit) v=>zq.l1 s f (-1) _ k v) s.length (fun _ _=>True) ?_ ?_ () trivial
   ·intro j _ hj _;exact .inr ⟨(),trivial,fun k hk=>⟨fun _=>⟨_,zd0 hj,_,hf _ (List.getElem_mem hj),fun h=>absurd h (hc _ (List.getElem_mem hj)),fun _=>⟨zn (by omega) (by omega),hk⟩⟩,fun h=>absurd (by omega) (df h)⟩⟩
   ·intro _ _ k;exact ⟨fun h=>absurd (dt h) (by omega),fun _=>rfl⟩
  ·rw [List.any_eq_true] at hc;obtain ⟨x,hx,hgx⟩:=hc;have hex:∃i,∃(h:i<s.length),g s[i]=true:=by
    obtain ⟨i,hi,rfl⟩:=List.mem_iff_getElem.1 hx;exact ⟨i,hi,hgx⟩
   obtain ⟨i,⟨hi,hi2⟩,hmin⟩:=exists_least hex;refine ⟨(i:Int), ?_,by simp⟩;refine zg1 (P:=fun k (_:Unit) v=>zq.l1 s f (i:Int) _ k v) (i+1) (fun j _=>j≤i) ?_ ?_ () (by omega)
   ·intro j _ hj hle;have hat:=zd0 (show j<s.length by omega);have hfj:=hf _ (List.getElem_mem (show j<s.length by omega))
    by_cases hji:j=i
    ·subst hji;rw [hi2] at hfj;exact .inl fun k=>⟨fun _=>⟨_,hat,true,hfj,fun _=>rfl,(fun h=>by cases h)⟩,fun h=>absurd (by omega) (df h)⟩
    ·have hno:g (s[j]'(by omega))=false:=by
      cases hg:g (s[j]'(by omega))
      ·rfl
      ·have:=hmin j ⟨by omega,hg⟩;omega
     rw [hno] at hfj;exact .inr ⟨(),by omega,fun k hk=>⟨fun _=>⟨_,hat,false,hfj,(fun h=>by cases h),fun _=>⟨zn (by omega) (by omega),hk⟩⟩,fun h=>absurd (by omega) (df h)⟩⟩
   ·intro _ h k;omega
 obtain ⟨i,h1,h2⟩:=key;exact ⟨i,h1,h2.symm⟩
theorem sat_pos (n:Nat):decide (0<sat n)=decide (n≠0):=by
 by_cases h:n=0
 ·subst h;simp [sat]
 ·rw [decide_eq_true (by unfold sat;omega),decide_eq_true h]
theorem zf4 {d:List SNode} {l:List (List SItem)} (hl:∀s∈l,Sm d s) (hn:l.length≤2000000000):zel d l (endS d l):=by
 refine ⟨_,idxS_in (g:=fun s=>decide ((hds d s).count []≠0)) (fun s hs=>⟨_,(ends_both (hl s hs)).1, ?_⟩) (by omega),rfl⟩;exact (sat_pos _).symm
theorem zpi {d:List SNode} {l:List (List SItem)} (hl:∀s∈l,Sm d s) (hn:l.length≤2000000000):zdd d l (endS d l):=by
 refine zg1 (P:=fun k (_:Unit) v=>zdd.l1 d l (endS d l) _ k v) l.length (fun i _=>endS d (l.take i)=false) ?_ ?_ () rfl
 ·intro i _ hi hI;have he:=(ends_both (hl _ (List.getElem_mem hi))).2;cases hq:decide ((hds d l[i]).count []≠0)
  ·refine .inr ⟨(), ?_,fun k hk=>⟨fun _=>⟨_,zd0 hi,_,he,fun h=>?_,fun _=>⟨zn (by omega) (by omega),hk⟩⟩,fun h=>absurd (by omega) (df h)⟩⟩
   ·rw [List.take_succ_eq_append_getElem hi];unfold endS at *;rw [List.any_append,hI];simp only [List.any_cons,List.any_nil,hq,Bool.or_self]
   ·rw [sat_pos,hq] at h;cases h
  ·refine .inl fun k=>⟨fun _=>⟨_,zd0 hi,_,he,fun _=>?_,fun h=>?_⟩,fun h=>absurd (by omega) (df h)⟩
   ·unfold endS;rw [List.any_eq_true];exact ⟨_,List.getElem_mem hi,hq⟩
   ·rw [sat_pos,hq] at h;cases h
 ·intro _ hI k;refine ⟨fun h=>absurd (dt h) (by omega),fun _=>?_⟩;rw [List.take_length] at hI;exact hI
theorem zi1 {d:List SNode} {l:List (List SItem)} (hl:∀s∈l,Sm d s) (hn:l.length≤2000000000) (hc:(zis d l).length*32≤140737488355328):zb6 d l (zis d l):=by
 refine zg1 (P:=fun k out v=>zb6.l1 d l _ k out v) l.length (fun i out=>out=zis d (l.take i)) ?_ ?_ _ (by simp [zis])
 ·rintro i out hi rfl;have e:zis d (l.take (i+1))=zis d (l.take i)++clsA d l[i]:=by
   unfold zis;rw [List.take_succ_eq_append_getElem hi,List.flatMap_append];simp
  refine .inr ⟨_,rfl,fun k hk=>⟨fun _=>⟨_,zd0 hi,_,(clsA_in (hl _ (List.getElem_mem hi))).1, ?_,zn (by omega) (by omega),by rw [← e];exact hk⟩,fun h=>absurd (by omega) (df h)⟩⟩;have h2:zis d l=zis d (l.take (i+1))++zis d (l.drop (i+1)):=by unfold zis;rw [← List.flatMap_append,List.take_append_drop]
  have h3:=congrArg List.length h2;rw [e,List.length_append,List.length_append] at h3;omega
 ·rintro out rfl k;refine ⟨fun h=>absurd (dt h) (by omega),fun _=>?_⟩;show zis d l=_;rw [List.take_length]
theorem zfa {d:List SNode} {l:List (List SItem)} (hl:∀s∈l,Sm d s) (hn:l.length≤2000000000) (hc:(zis d l).length*32≤140737488355328):zbt d l (zis d l):=by
 refine zg1 (P:=fun k out v=>zbt.l1 d l _ k out v) l.length (fun i out=>out=zis d (l.take i)) ?_ ?_ _ (by simp [zis])
 ·rintro i out hi rfl;have e:zis d (l.take (i+1))=zis d (l.take i)++clsA d l[i]:=by
   unfold zis;rw [List.take_succ_eq_append_getElem hi,List.flatMap_append];simp
  refine .inr ⟨_,rfl,fun k hk=>⟨fun _=>⟨_,zd0 hi,_,(clsA_in (hl _ (List.getElem_mem hi))).2.1, ?_,zn (by omega) (by omega),by rw [← e];exact hk⟩,fun h=>absurd (by omega) (df h)⟩⟩;have h2:zis d l=zis d (l.take (i+1))++zis d (l.drop (i+1)):=by unfold zis;rw [← List.flatMap_append,List.take_append_drop]
  have h3:=congrArg List.length h2;rw [e,List.length_append,List.length_append] at h3;omega
 ·rintro out rfl k;refine ⟨fun h=>absurd (dt h) (by omega),fun _=>?_⟩;show zis d l=_;rw [List.take_length]
theorem zl4 {l:List Cl} (hn:l.length≤140737488351232) (ho:(zd1 l).length≤2147483647):zdk l (zd1 l):=by
 have hpre:∀i,(zd1 (l.take i)).length≤(zd1 l).length:=fun i=>by
  refine zki (znc _) fun x hx=>(zgw l).2 (List.mem_of_mem_take ((zgw _).1 hx))
 refine zg1 (P:=fun k (s:List (Cl × Bool) × List Cl) v=>zdk.l1 l _ k s.1 s.2 v) l.length (fun i s=>s.2=zd1 (l.take i)∧∀x,ze4 s.1 x false=decide (x∈l.take i)) ?_ ?_ ([],[]) ⟨by simp [zd1],fun x=>by simp [ze4]⟩
 ·rintro i ⟨met,out⟩ hi ⟨h1,h2⟩;simp only at h1 h2;subst h1;have htk:l.take (i+1)=l.take i++[l[i]]:=List.take_succ_eq_append_getElem hi;have hnext:∀x,ze4 (zgi met l[i] true) x false=decide (x∈l.take (i+1)):=fun x=>by
   rw [mget_mput,h2,htk]
   by_cases hx:l[i]=x
   ·rw [if_pos hx];exact (decide_eq_true (List.mem_append.2 (.inr (by rw [← hx];exact List.mem_singleton.2 rfl)))).symm
   ·rw [if_neg hx];exact decide_eq_decide.2 ⟨fun h=>List.mem_append.2 (.inl h),fun h=>(List.mem_append.1 h).resolve_right fun e=>hx (List.mem_singleton.1 e).symm⟩
  have hp1:=hpre (i+1)
  by_cases hm:l[i]∈l.take i
  ·refine .inr ⟨(zgi met l[i] true,zd1 (l.take i)),⟨?_,hnext⟩,fun k hk=>⟨fun _=>⟨_,zd0 hi,fun h=>?_,fun _=>⟨zn (by omega) (by omega),hk⟩⟩,fun h=>absurd (by omega) (df h)⟩⟩
   ·rw [htk,zfs,if_pos ((zgw _).2 hm)]
   ·rw [h2,decide_eq_true hm] at h;cases h
  ·have e:zd1 (l.take (i+1))=zd1 (l.take i)++[l[i]]:=by rw [htk,zfs,if_neg fun h=>hm ((zgw _).1 h)]
   refine .inr ⟨(zgi met l[i] true,zd1 (l.take i)++[l[i]]),⟨e.symm,hnext⟩,fun k hk=>⟨fun _=>⟨_,zd0 hi,fun _=>⟨?_,zn (by omega) (by omega),hk⟩,fun h=>?_⟩,fun h=>absurd (by omega) (df h)⟩⟩
   ·rw [e] at hp1;simp only [List.length_append,List.length_cons,List.length_nil] at hp1 ⊢;omega
   ·rw [h2,decide_eq_false hm] at h;cases h
 ·rintro ⟨met,out⟩ ⟨h1,h2⟩ k;simp only at h1;subst h1;refine ⟨fun h=>absurd (dt h) (by omega),fun _=>?_⟩;show zd1 l=_;rw [List.take_length]
theorem zkw {l:List Cl} (hn:l.length≤140737488351232) (ho:(zd1 l).length≤2147483647):zbh l (zd1 l):=by
 have hpre:∀i,(zd1 (l.take i)).length≤(zd1 l).length:=fun i=>by
  refine zki (znc _) fun x hx=>(zgw l).2 (List.mem_of_mem_take ((zgw _).1 hx))
 refine uptoK (P:=fun k out v=>zbh.l1 l _ k out v) l.length (fun i out=>out=zd1 (l.take i)) ?_ ?_ [] (by simp [zd1])
 ·rintro i out k hi rfl hk;have htk:l.take (i+1)=l.take i++[l[i]]:=List.take_succ_eq_append_getElem hi;have hp0:=hpre i;have hp1:=hpre (i+1);refine ⟨fun _=>?_,fun h=>absurd (by omega) (df h)⟩;have fin:∀b:Bool,b=decide (l[i]∈zd1 (l.take i))→zbh.j2 (zbh.l1 l (zbh.j1 (zd1 l)) k) l (zd1 (l.take i)) (i:Int) b:=fun b hb=>by
   by_cases hm:l[i]∈zd1 (l.take i)
   ·rw [decide_eq_true hm] at hb;subst hb;refine ⟨(fun h=>by cases h),fun _=>⟨zn (by omega) (by omega),hk _ ?_⟩⟩;rw [htk,zfs,if_pos hm]
   ·rw [decide_eq_false hm] at hb;subst hb;have e:zd1 (l.take (i+1))=zd1 (l.take i)++[l[i]]:=by rw [htk,zfs,if_neg hm]
    refine ⟨fun _=>⟨_,zd0 hi, ?_,zn (by omega) (by omega),hk _ e.symm⟩,(fun h=>by cases h)⟩;rw [e] at hp1;simp only [List.length_append,List.length_cons,List.length_nil] at hp1 ⊢;omega
  refine zg1 (P:=fun k b v=>zbh.l2 l (zd1 (l.take i)) (i:Int) _ k b v) (zd1 (l.take i)).length (fun j b=>(b=false∧l[i] ∉ (zd1 (l.take i)).take j)∨(b=true∧l[i]∈zd1 (l.take i))) ?_ ?_ false (.inl ⟨rfl,by simp⟩)
  ·rintro j b hj (⟨rfl,h1⟩ | ⟨rfl,h1⟩)
   ·refine .inr ⟨((zd1 (l.take i))[j]==l[i]), ?_,fun k2 hk2=>⟨fun _=>⟨_,zd0 hj,_,zd0 hi,zn (by omega) (by omega),hk2⟩,fun h=>by simp [hj] at h⟩⟩
    by_cases he:(zd1 (l.take i))[j]=l[i]
    ·exact .inr ⟨by simpa using he,by rw [← he];exact List.getElem_mem hj⟩
    ·refine .inl ⟨by simpa using he,fun hm=>?_⟩;rw [List.take_succ_eq_append_getElem hj,List.mem_append,List.mem_singleton] at hm;exact hm.elim h1 fun e=>he e.symm
   ·exact .inl fun k2=>⟨fun h=>by simp at h,fun _=>fin true (decide_eq_true h1).symm⟩
  ·rintro b (⟨rfl,h1⟩ | ⟨rfl,h1⟩) k2
   ·rw [List.take_length] at h1;exact ⟨fun h=>by simp at h,fun _=>fin false (decide_eq_false h1).symm⟩
   ·exact ⟨fun h=>by simp at h,fun _=>fin true (decide_eq_true h1).symm⟩
 ·rintro out rfl k;refine ⟨fun h=>absurd (dt h) (by omega),fun _=>?_⟩;show zd1 l=_;rw [List.take_length]
theorem zid {d:List SNode} {l:List (List SItem)} (hl:∀s∈l,Sm d s) (hn:l.length≤2000000000) (hc:(zis d l).length≤1000000000):zff d l (bytS d l):=by
 have ho:=znd (zis d l);exact ⟨_,zi1 hl hn (by omega),_,zl4 (by omega) (by omega),_,zn4 (by omega),rfl⟩
theorem zn7 {d:List SNode} {l:List (List SItem)} (hl:∀s∈l,Sm d s) (hn:l.length≤2000000000) (hc:(zis d l).length≤1000000000):zif d l (bytS d l):=by
 have ho:=znd (zis d l);exact ⟨_,zfa hl hn (by omega),_,zkw (by omega) (by omega),_,zoi (by omega),rfl⟩
theorem zou {d:List SNode} (h:Rt d) (hl:d.length≤24) (ht:Txt d) {w:List Int} (hw:∀c∈w,InR .u8 c) {c:Int} (hc:InR .u8 c) (hp:pas d.length (w.length+1)≤2000000000):Room d c (zmr d w):=by
 refine ⟨fun s hs=>(aftS_sm h hl ht hw hs).1, ?_, ?_⟩
 ·have:=aftS_len h hw;have:=pas_more d.length w.length;omega
 ·have hw2:∀b∈w++[c],InR .u8 b:=fun b hb=>(List.mem_append.1 hb).elim (hw b) fun e=>by rw [List.mem_singleton.1 e];exact hc
  obtain ⟨K,k1,k2⟩:=after_cov h fun b hb=>(zjb.1 (hw2 b hb)).1;rw [List.length_append,List.length_singleton] at k1;refine ⟨K,by omega,fun s hs t hts=>k2 t ?_⟩;show t∈zdz d (w++[c]) (stS d);rw [← zqx,zjf,zlp];exact ⟨s,hs,hts⟩
theorem zp7 {m k m' k':Nat} (h1:m≤m') (h2:k≤k') {n:Nat} (h:pas m' k'≤n):pas m k≤n:=Nat.le_trans (Nat.le_trans (pas_mono h1 k) (pas_long m' h2)) h
theorem pas_24_9:pas 24 9≤2000000000:=pas_le (by decide +kernel)
theorem pas_16_17:pas 16 17≤2000000000:=pas_le (by decide +kernel)
theorem zks {d:List SNode} (h:Rt d) (hl:d.length≤24) (ht:Txt d) {w:List Int} (hw:∀c∈w,InR .u8 c) (hn:w.length≤1000) (hp:pas d.length w.length≤2000000000):zcv d w (zmr d w):=by
 refine ⟨_,zgl h.ne (by omega), ?_⟩;refine zg1 (P:=fun k l v=>zcv.l1 d w _ k l v) w.length (fun i l=>l=zmr d (w.take i)) ?_ ?_ _ (by rw [List.take_zero,zmq])
 ·rintro i l hi rfl;have hsn:zmr d (w.take (i+1))=onS d w[i] (zmr d (w.take i)):=by rw [List.take_succ_eq_append_getElem hi,zjf]
  have hr:=zou h hl ht (w:=w.take i) (fun c hc=>hw c (List.mem_of_mem_take hc)) (hw _ (List.getElem_mem hi)) (zp7 (Nat.le_refl _) (by rw [List.length_take];omega) hp);exact .inr ⟨_,rfl,fun k hk=>⟨fun _=>⟨_,zd0 hi,_,zjo hr (hw _ (List.getElem_mem hi)),zn (by omega) (by omega),by rw [← hsn];exact hk⟩,fun h=>absurd (by omega) (df h)⟩⟩
 ·rintro l rfl k;refine ⟨fun h=>absurd (dt h) (by omega),fun _=>?_⟩;show zmr d w=_;rw [List.take_length]
theorem zn9 {d:List SNode} (h:Rt d) (hl:d.length≤24) (ht:Txt d) {w:List Int} (hw:∀c∈w,InR .u8 c) (hn:w.length≤1000) (hp:pas d.length w.length≤2000000000):zcu d w (zmr d w):=by
 refine ⟨_,zj9 h.ne (by omega), ?_⟩;refine zg1 (P:=fun k l v=>zcu.l1 d w _ k l v) w.length (fun i l=>l=zmr d (w.take i)) ?_ ?_ _ (by rw [List.take_zero,zmq])
 ·rintro i l hi rfl;have hsn:zmr d (w.take (i+1))=onS d w[i] (zmr d (w.take i)):=by rw [List.take_succ_eq_append_getElem hi,zjf]
  have hr:=zou h hl ht (w:=w.take i) (fun c hc=>hw c (List.mem_of_mem_take hc)) (hw _ (List.getElem_mem hi)) (zp7 (Nat.le_refl _) (by rw [List.length_take];omega) hp);exact .inr ⟨_,rfl,fun k hk=>⟨fun _=>⟨_,zd0 hi,_,zm8 hr (hw _ (List.getElem_mem hi)),zn (by omega) (by omega),by rw [← hsn];exact hk⟩,fun h=>absurd (by omega) (df h)⟩⟩
 ·rintro l rfl k;refine ⟨fun h=>absurd (dt h) (by omega),fun _=>?_⟩;show zmr d w=_;rw [List.take_length]
theorem zgo {a b:List (List SItem)} (ha:∀x∈a,x.length≤1000) (hb:∀x∈b,x.length≤1000) (hl:a.length≤140737488351232):zco a b (decide (a=b)):=by
 by_cases hne:a.length=b.length
 ·refine ⟨fun h=>absurd h (by simp [hne]),fun _=>?_⟩;refine zg1 (P:=fun k (_:Unit) v=>zco.l1 a b (decide (a=b)) _ k v) a.length (fun i _=>a.take i=b.take i) ?_ ?_ () (by simp)
  ·intro i _ hi ht;have hib:i<b.length:=by omega
   have hs:=zps (ha _ (List.getElem_mem hi)) (hb _ (List.getElem_mem hib))
   by_cases hab:a[i]=b[i]
   ·refine .inr ⟨(),by rw [List.take_succ_eq_append_getElem hi,List.take_succ_eq_append_getElem hib,ht,hab],fun k hk=>⟨fun _=>⟨_,zd0 hi,_,zd0 hib,_,hs,fun h=>?_,fun _=>⟨zn (by omega) (by omega),hk⟩⟩,fun h=>absurd (by omega) (df h)⟩⟩;rw [hab] at h;simp at h
   ·refine .inl fun k=>⟨fun _=>⟨_,zd0 hi,_,zd0 hib,_,hs,fun _=>?_,fun h=>?_⟩,fun h=>absurd (by omega) (df h)⟩
    ·simp only [decide_eq_false_iff_not];intro e;subst e;exact hab rfl
    ·simp at h;exact absurd h hab
  ·intro _ ht k;refine ⟨fun h=>absurd (dt h) (by omega),fun _=>?_⟩;show decide (a=b)=true;rw [List.take_length,hne,List.take_length] at ht;simp [ht]
 ·refine ⟨fun _=>?_,fun h=>absurd (Int.ofNat.inj (by simpa using h)) hne⟩;simp only [decide_eq_false_iff_not];intro e;subst e;exact hne rfl
structure Fs (d:List SNode) (l:List (List SItem)):Prop where
 sm:∀s∈l,Sm d s∧s.length≤8
 srt:Rs l
 len:l.length≤6
def stepK (d:List SNode) (c:Int) (s:List SItem):List (List SItem):=(zhx (hds d s)).filterMap fun t=>if (zbn d t c).2=true then some (zbn d t c).1 else none
theorem stepK_len {d:List SNode} {s:List SItem} (h:Sm d s) (c:Int):(stepK d c s).length≤10001:=by
 have h1:=zno h (canB_can d s);unfold canB at h1;rw [List.length_map] at h1;exact Nat.le_trans (List.length_filterMap_le _ _) h1
theorem stepK_mem {d:List SNode} {c:Int} {s t:List SItem} (h:t∈zei d c s):t∈stepK d c s:=by
 unfold zei at h;obtain ⟨u,h1,h2⟩:=List.mem_filterMap.1 h;exact List.mem_filterMap.2 ⟨u,zdy.2 h1,h2⟩
theorem flatS_len (f:List SItem→List (List SItem)) (m:Nat):∀l:List (List SItem),(∀s∈l,(f s).length≤m)→(l.flatMap f).length≤m*l.length
 | [],_=>by simp
 | s::l,h=>by
  have h1:=h s (by simp);have h2:=flatS_len f m l fun u hu=>h u (by simp [hu]);rw [List.flatMap_cons,List.length_append,List.length_cons,Nat.mul_add];omega
theorem zpb {d:List SNode} {l:List (List SItem)} (h:∀s∈l,Sm d s) (hl:l.length≤100000) (c:Int):Room d c l:=by
 refine ⟨h,by omega,l.flatMap (stepK d c), ?_,fun s hs t ht=>List.mem_flatMap.2 ⟨s,hs,stepK_mem ht⟩⟩;have:=flatS_len (stepK d c) 10001 l fun s hs=>stepK_len (h s hs) c;omega
theorem cls_few {d:List SNode} {l:List (List SItem)} (h:∀s∈l,Sm d s) (hl:l.length≤300):(zis d l).length≤1000000000:=by
 have:∀l:List (List SItem),(∀s∈l,Sm d s)→(zis d l).length≤256*10001*l.length:=by
  intro l
  induction l with
  | nil=>intro _;simp [zis]
  | cons s l ih=>
   intro h;have h1:=(clsA_in (h s (by simp))).2.2;have h2:=ih fun u hu=>h u (by simp [hu]);have e:zis d (s::l)=clsA d s++zis d l:=by simp [zis]
   rw [e,List.length_append,List.length_cons,Nat.mul_add];omega
 have:=this l h;omega
def fitB (d:List SNode) (s:List SItem):Bool:=(decide ((d.length:Int)≤24)&&decide ((s.length:Int)≤8))&&zd4 d s
theorem fits16 {d:List SNode} {s:List SItem}:zjs d s (fitB d s):=by
 refine ⟨_,rfl,zd4 d s,fun h=>?_,rfl⟩;simp only [Bool.and_eq_true,decide_eq_true_eq] at h;exact zpu (by omega)
theorem rs_chain {l:List (List SItem)} (h:∀i,0<i→∀(hi:i<l.length),ze3 (l[i-1]'(by omega)) l[i] < 0):Rs l:=by
 unfold Rs;rw [List.pairwise_iff_getElem];intro i j hi hj hij;obtain ⟨n,rfl⟩:∃n,j=i+1+n:=⟨j-i-1,by omega⟩;clear hij
 induction n with
 | zero=>exact h (i+1) (by omega) hj
 | succ n ih=>exact zfy (ih (by omega)) (h (i+1+(n+1)) (by omega) hj)
theorem zpg {d:List SNode} {l:List (List SItem)} (hR:Rt d) (ht:Txt d) (hl:l.length≤140737488351232):∃r,zcw d l r∧(r=true→Fs d l∧d.length≤24):=by
 have hfl:∀s,fitB d s=true→s.length≤8:=fun s h=>by
  unfold fitB at h;simp only [Bool.and_eq_true,decide_eq_true_eq] at h;omega
 let bad:Nat→Prop:=fun i=>∃(h:i<l.length),fitB d l[i]=false∨(0<i∧¬ ze3 (l[i-1]'(by omega)) l[i] < 0)
 rcases Classical.em (∃i,bad i) with hb | hb
 ·refine ⟨false, ?_,(fun h=>by cases h)⟩;refine zg1 (P:=fun k (_:Unit) v=>zcw.l1 d l false _ k v) l.length (fun i _=>∀j,j<i→¬ bad j) ?_ ?_ () (by intro j hj;omega)
  ·intro i _ hi hI
   by_cases hbi:bad i
   ·refine .inl fun k=>⟨fun _=>⟨_,zd0 hi,_,fits16,fun _=>zn (by omega) (by omega), ?_⟩,fun h=>absurd (by omega) (df h)⟩;cases hf:fitB d l[i]
    ·exact ⟨default,(fun h=>by simp at h),default,(fun h=>by simp at h),0,(fun h=>by simp at h),_,rfl,fun _=>rfl,(fun h=>by simp at h)⟩
    ·obtain ⟨_,h | ⟨h0,h⟩⟩:=hbi
     ·rw [hf] at h;cases h
     have hp:=hI (i-1) (by omega);have hfp:fitB d (l[i-1]'(by omega))=true:=by
      cases hq:fitB d (l[i-1]'(by omega))
      ·exact absurd ⟨by omega,.inl hq⟩ hp
      ·rfl
     refine ⟨l[i-1]'(by omega),fun _=>by rw [show (i:Int)-1=((i-1:Nat):Int) by omega];exact zd0 (by omega),l[i],fun _=>zd0 hi,_,fun _=>zem (by have:=hfl _ hfp;omega) (by have:=hfl _ hf;omega),_,rfl,fun _=>rfl,fun hh=>?_⟩;exfalso;simp only [Bool.not_true,Bool.false_or,Bool.and_eq_false_iff,decide_eq_false_iff_not] at hh;omega
   ·refine .inr ⟨(),fun j hj=>?_,fun k hk=>⟨fun _=>⟨_,zd0 hi,_,fits16,fun _=>zn (by omega) (by omega), ?_⟩,fun h=>absurd (by omega) (df h)⟩⟩
    ·by_cases hji:j=i
     ·subst hji;exact hbi
     ·exact hI j (by omega)
    have hf:fitB d l[i]=true:=by
     cases hq:fitB d l[i]
     ·exact absurd ⟨hi,.inl hq⟩ hbi
     ·rfl
    by_cases h0:0<i
    ·have hc:ze3 (l[i-1]'(by omega)) l[i] < 0:=Classical.byContradiction fun hc=>hbi ⟨hi,.inr ⟨h0,hc⟩⟩;have hfp:fitB d (l[i-1]'(by omega))=true:=by
      cases hq:fitB d (l[i-1]'(by omega))
      ·exact absurd ⟨by omega,.inl hq⟩ (hI (i-1) (by omega))
      ·rfl
     refine ⟨l[i-1]'(by omega),fun _=>by rw [show (i:Int)-1=((i-1:Nat):Int) by omega];exact zd0 (by omega),l[i],fun _=>zd0 hi,_,fun _=>zem (by have:=hfl _ hfp;omega) (by have:=hfl _ hf;omega),_,rfl,fun _=>rfl,fun _=>⟨zn (by omega) (by omega),hk⟩⟩
    ·have:i=0:=by omega
     subst this;refine ⟨default,(fun h=>by simp at h),default,(fun h=>by simp at h),0,(fun h=>by simp at h),_,rfl,fun _=>rfl,fun _=>⟨zn (by omega) (by omega),hk⟩⟩
  ·intro _ hI k;obtain ⟨i,hbi⟩:=hb;exact absurd hbi (hI i hbi.1)
 ·have hall:∀i (hi:i<l.length),fitB d l[i]=true∧(0<i→ze3 (l[i-1]'(by omega)) l[i] < 0):=fun i hi=>by
   refine ⟨?_,fun h0=>Classical.byContradiction fun hc=>hb ⟨i,hi,.inr ⟨h0,hc⟩⟩⟩;cases hq:fitB d l[i]
   ·exact absurd ⟨i,hi,.inl hq⟩ hb
   ·rfl
  refine ⟨((decide ((l.length:Int)≤6))&&(decide ((d.length:Int)≤24))), ?_,fun h=>?_⟩
  rotate_left
  ·simp only [Bool.and_eq_true,decide_eq_true_eq] at h;refine ⟨⟨fun s hs=>?_,rs_chain fun i h0 hi=>(hall i hi).2 h0,by omega⟩,by omega⟩;obtain ⟨i,hi,rfl⟩:=List.mem_iff_getElem.1 hs;have hf:=(hall i hi).1;unfold fitB at hf;simp only [Bool.and_eq_true,decide_eq_true_eq] at hf;exact ⟨⟨hR,by omega,ht,hf.2,by omega⟩,by omega⟩
  ·refine zg1 (P:=fun k (_:Unit) v=>zcw.l1 d l _ _ k v) l.length (fun i _=>True) ?_ ?_ () trivial
   ·intro i _ hi _;refine .inr ⟨(),trivial,fun k hk=>⟨fun _=>⟨_,zd0 hi,_,fits16,fun _=>zn (by omega) (by omega), ?_⟩,fun h=>absurd (by omega) (df h)⟩⟩;obtain ⟨hf,hc⟩:=hall i hi
    by_cases h0:0<i
    ·have hfp:=(hall (i-1) (by omega)).1;have hc:=hc h0;refine ⟨l[i-1]'(by omega),fun _=>by rw [show (i:Int)-1=((i-1:Nat):Int) by omega];exact zd0 (by omega),l[i],fun _=>zd0 hi,_,fun _=>zem (by have:=hfl _ hfp;omega) (by have:=hfl _ hf;omega),_,rfl,fun hh=>?_,fun _=>⟨zn (by omega) (by omega),hk⟩⟩;exfalso;rw [hf] at hh;simp only [Bool.not_true,Bool.false_or,Bool.and_eq_true,decide_eq_true_eq] at hh;omega
    ·have:i=0:=by omega
     subst this;refine ⟨default,(fun h=>by simp at h),default,(fun h=>by simp at h),0,(fun h=>by simp at h),_,rfl,fun hh=>?_,fun _=>⟨zn (by omega) (by omega),hk⟩⟩;exfalso;rw [hf] at hh;simp at hh
   ·intro _ _ k;exact ⟨fun h=>absurd (dt h) (by omega),fun _=>⟨_,rfl,rfl⟩⟩
def d6:List SNode:=zmd 6 d5
theorem d6_rt:Rt d6:=wrap_rt d5_rt (.inl rfl) fun _=>by decide +kernel
theorem d6_txt:Txt d6:=zm3 (by decide +kernel)
theorem d5_txt:Txt d5:=zm3 (by decide +kernel)
theorem d6_sm {s:List SItem} (hf:zd4 d6 s=true) (hs:s.length≤40):Sm d6 s:=⟨d6_rt,by decide +kernel,d6_txt,hf,by omega⟩
theorem heads_nil:zf8 ([]:List Cl)=[0]:=by decide +kernel
theorem bytC_nil:bytC []=[0]:=by rw [bytC_eq,heads_nil];rfl
theorem bytS_nil (d:List SNode):bytS d []=[0]:=bytC_nil
theorem zm5 {l:List (List SItem)} (h1:l.length≤1000000000) (h2:∀s∈l,s.length≤1000):zg8 l (zqi l):=⟨h1,h2,rfl⟩
theorem awake16:zgy true:=by
 have u8:∀c:Int,0≤c∧c≤255→InR .u8 c:=fun c h=>zjb.2 h;have sm:∀s∈[stS d6],Sm d6 s:=fun s hs=>by
  rw [List.mem_singleton.1 hs];exact d6_sm (by decide +kernel) (by decide)
 have smN:∀s∈([]:List (List SItem)),Sm d6 s:=fun s hs=>by cases hs
 have sm5:∀s∈[stS d5],Sm d5 s:=fun s hs=>by
  rw [List.mem_singleton.1 hs];exact d5_sm (by decide +kernel) (by decide)
 have sm5e:∀s∈[([]:List SItem)],Sm d5 s:=fun s hs=>by
  rw [List.mem_singleton.1 hs];exact d5_sm rfl (by decide)
 have o1:zcd d6 [stS d6] 5 [stS d6]:=by
  have:=zjo (zpb sm (by decide) 5) (u8 5 (by decide))
  rwa [show onS d6 5 [stS d6]=[stS d6] by decide +kernel] at this
 have o2:zcd d6 [stS d6] 7 []:=by
  have:=zjo (zpb sm (by decide) 7) (u8 7 (by decide))
  rwa [show onS d6 7 [stS d6]=[] by decide +kernel] at this
 have e1:zel d6 [stS d6] true:=by
  have:=zf4 sm (by decide)
  rwa [show endS d6 [stS d6]=true by decide +kernel] at this
 have e2:zel d6 [] false:=zf4 smN (by decide);have e3:zel d5 [stS d5] false:=by
  have:=zf4 sm5 (by decide)
  rwa [show endS d5 [stS d5]=false by decide +kernel] at this
 have a1:zcv d5 [6] [[]]:=by
  have:=zks d5_rt (by decide) d5_txt (w:=[6]) (fun c hc=>by rw [List.mem_singleton.1 hc];exact u8 6 (by decide)) (by decide) (zp7 (m':=16) (k':=17) (by decide) (by decide) pas_16_17)
  rwa [show zmr d5 [6]=[[]] by decide +kernel] at this
 have e4:zel d5 [[]] true:=by
  have:=zf4 sm5e (by decide)
  rwa [show endS d5 [[]]=true by decide +kernel] at this
 have b1:zff d6 [stS d6] [0,5]:=by
  have:=zid sm (by decide) (cls_few sm (by decide));have e:bytS d6 [stS d6]=[0,5]:=by
   unfold bytS;rw [bytC_eq,show zis d6 [stS d6]=[Cl.row 5 6] by decide +kernel,show zf8 [Cl.row 5 6]=[0,5] by decide +kernel];rfl
  rwa [e] at this
 have b2:zff d6 [] [0]:=by
  have:=zid smN (by decide) (cls_few smN (by decide))
  rwa [bytS_nil] at this
 have k1:zg8 [stS d6] (zqi [stS d6]):=zm5 (by decide) (by decide);have k2:zg8 [] (zqi []):=zm5 (by decide) (by decide);refine ⟨Cl.row 5 6,zi6 (u8 5 (by decide)) (u8 6 (by decide)),d6,Wrap_in d5_rt.tr (by decide),[stS d6],zgl d6_rt.ne (by decide +kernel),_,o1,_,o2,_,rfl,(fun h=>by simp at h),fun _=>⟨_,zgo (by decide) (by decide) (by decide),_,fun _=>e1,_,fun _=>e2,_,rfl,_,fun _=>zgl d5_rt.ne (by decide),_,fun _=>e3,_,fun _=>a1,_,fun _=>e4,_,fun _=>b1,_,fun _=>zhl (by decide),_,fun _=>b2,_,fun _=>zhl (by decide),_,fun _=>k1,_,fun _=>k1,_,rfl,_,fun _=>k1,_,fun _=>k2, ?_⟩⟩;simp [zqi]
theorem onS_short {d:List SNode} {c:Int} {l:List (List SItem)} (hl:∀s∈l,Sm d s) (hc:InR .u8 c):∀t∈onS d c l,t.length≤1000:=fun t ht=>by
 obtain ⟨s,h1,h2⟩:=zlp.1 ht;exact zjk (hl s h1) hc h2
theorem Room.out {d:List SNode} {c:Int} {l:List (List SItem)} (h:Room d c l):(onS d c l).length≤2000000000:=by
 obtain ⟨K,k1,k2⟩:=h.cov;refine Nat.le_trans (zkt fun t ht=>?_) k1;obtain ⟨s,h1,h2⟩:=List.mem_flatMap.1 ht;exact k2 s h1 t h2
theorem Sm.short {d:List SNode} {s:List SItem} (h:Sm d s):s.length≤1000:=by have:=h.slen;omega
theorem form_guard {d:List SNode} {l:List (List SItem)} (ht:Txt d) (hl:l.length≤140737488351232) {r6 r8:Bool} (h:r6=true→r8=true→Rt d):∃r,((r6&&r8)=true→zcw d l r)∧((r6&&r8)=true→r=true→Fs d l∧d.length≤24):=by
 cases hb:(r6&&r8)
 ·exact ⟨false,(fun h=>by cases h),(fun h=>by cases h)⟩
 ·rw [Bool.and_eq_true] at hb;obtain ⟨r,h1,h2⟩:=zpg (l:=l) (h hb.1 hb.2) ht hl;exact ⟨r,fun _=>h1,fun _=>h2⟩
theorem law16_SetsTell_true {d:List SNode} {l:List (List SItem)} {c:Int} {w:List Int} (ht:Txt d) (hl:l.length≤140737488351232) (hc:InR .u8 c) (hw:∀b∈w,InR .u8 b):zhq d l c w true:=by
 obtain ⟨r6,r8,h6,h6b,h8,h8b⟩:=guard15 ht;obtain ⟨r10,h10,h10b⟩:=form_guard (l:=l) ht hl h8b;refine ⟨true,awake16,r6,fun _=>h6,r8,fun h=>h8 (by simpa using h),r10,fun h=>h10 (by simpa using h),_,rfl,fun _=>⟨true,awake16,rfl⟩,fun hb=>?_⟩;simp only [Bool.not_true,Bool.false_or,Bool.or_eq_false_iff,Bool.not_eq_false',decide_eq_false_iff_not] at hb;obtain ⟨⟨⟨g1,g2⟩,g3⟩,g4⟩:=hb;have hR:=h8b g1 g2;obtain ⟨hF,hd⟩:=h10b (by simp [g1,g2]) g3;have hsm:∀s∈l,Sm d s:=fun s hs=>(hF.sm s hs).1;have hll:=hF.len;have hr:=zpb hsm (by omega) c;have hcl:=cls_few hsm (by omega);have hon:=onS_short hsm hc;have hout:=hr.out;have hol:=znd (zis d l);have hp:pas d.length w.length≤2000000000:=zp7 (m':=24) (k':=9) (by omega) (by omega) pas_24_9;have haf:∀t∈zmr d w,t.length≤1000:=fun t hta=>(aftS_sm hR hd ht hw hta).1.short;have hal:=aftS_len hR hw;have hst:∀t∈[stS d],t.length≤1000:=fun t h=>by rw [List.mem_singleton.1 h];simp [stS]
 have hby:=bytC_len (zis d l);refine ⟨_,zgl hR.ne (by omega),_,zj9 hR.ne (by omega),_,zgo hst hst (by simp),_,fun _=>zjo hr hc,_,fun _=>zm8 hr hc,_,fun _=>zgo hon hon (by omega),_,fun _=>zf4 hsm (by omega),_,fun _=>zpi hsm (by omega),_,fun _=>zid hsm (by omega) hcl,_,fun _=>zn7 hsm (by omega) hcl,_,fun _=>zhl (by show (bytC _).length<_;omega),_,fun _=>zi1 hsm (by omega) (by omega),_,fun _=>zfa hsm (by omega) (by omega),_,fun _=>zkz (by omega),_,fun _=>zfa hsm (by omega) (by omega),_,fun _=>zl4 (by omega) (by omega),_,fun _=>zfa hsm (by omega) (by omega),_,fun _=>zkw (by omega) (by omega),_,fun _=>zkz (by omega),_,rfl,_,fun _=>zks hR hd ht hw (by omega) hp,_,fun _=>zn9 hR hd ht hw (by omega) hp,_,fun _=>zgo haf haf (by omega),by simp⟩
open Go.ChangeShapes Go.WideShapes Go.RowKit
structure Rd (P:Program) (t:TypeId) {α:Type} (E:En α) (G:α→Prop):Prop where
 sz:P.cellsOf t=E.sz
 rd:∀{H:Type} (enc:TypeId × Value→H) (w:World) (fuel:Nat) (cs:List Value) (x:DataW H × List MemPlace),
  DataW.trod enc P w 0 (fun _=>true) true fuel t cs=some x→(∀n∈x.1.weights P t,n≤reachBytes)→∃y,E.R w (fun b=>b<w.heap.size) cs y∧G y
 vl:∀(w:World) (v:Value),Value.okWide P w .any 0 t v→(∃y,E.R w (fun b=>b<w.heap.size) v.cells.toList y)→v=E.val v.cells.toList
theorem Rd.int {P:Program} {t:TypeId} {k:IntKind} (ht:P.underlying t=some (.int k)) (hc:P.cellsOf t=1):Rd P t (En.int k) (InR k):=by
 refine ⟨hc, ?_, ?_⟩
 ·intro H enc w fuel cs x h _;obtain ⟨n,rfl,_,hw⟩:=DataW.trod_int ht h;have:InR k n:=by simpa [Lit.wf,InR] using hw
  exact ⟨n,⟨rfl,this⟩,this⟩
 ·intro w v hv _;obtain ⟨n,rfl⟩:=okWide_int ht hv;rfl
theorem Rd.str {P:Program} {t:TypeId} (ht:P.underlying t=some .string) (hc:P.cellsOf t=1):Rd P t En.str (fun y=>y.length≤140737488351232):=by
 refine ⟨hc, ?_, ?_⟩
 ·intro H enc w fuel cs x h hwt;obtain ⟨s,rfl,hx,hs⟩:=DataW.trod_string ht h;have hl:s.data.toList.length≤9223372036854775807:=by simpa [maxLen] using hs
  have h2:s.data.toList.length≤140737488351232:=hwt _ (by rw [hx];simp [DataW.weights]);exact ⟨s.data.toList,⟨rfl,hl⟩,h2⟩
 ·intro w v hv _;simp only [Value.okWide,ht,Cell.okWide,Cell.ok] at hv;cases v <;> simp at hv;rfl
theorem zms {H:Type} {P:Program} {e:TypeId}:∀{l:List (DataW H)} {d:DataW H},d∈l→∀n∈d.weights P e,n∈DataW.weightsAll P e l
 | [],_,h,_,_=>by cases h
 | d'::l,d,h,n,hn=>by
  simp only [DataW.weightsAll,List.mem_append];rcases List.mem_cons.1 h with rfl | h
  ·exact .inl hn
  ·exact .inr (zms h n hn)
theorem Rd.slice {P:Program} {t e:TypeId} {α:Type} {E:En α} {G:α→Prop} (ht:P.underlying t=some (.slice e)) (hc:P.cellsOf t=1) (hby:Nat.blt 0 (P.bytesOf e)=true) (he:Rd P e E G):
  Rd P t (En.slice E) (fun xs=>xs.length≤140737488351232∧∀y∈xs,G y):=by
 refine ⟨hc, ?_, ?_⟩
 ·intro H enc w fuel cs x h hwt;rcases Deep.open_slice ht h with ⟨rfl,_⟩ | ⟨a,len,cap,m,n,D,Pl,rfl,hb,hl,hm,hmm,hxe,hx⟩
  ·exact ⟨[],⟨_,rfl,zkf E _ _⟩,Nat.zero_le _,by simp⟩
  ·simp only [if_true] at hmm;subst hmm;have hall:∀i,i<len→∃p:α × List Value,w.cells? 0 (a.add (i*P.cellsOf e)) (P.cellsOf e)=some p.2∧E.R w (fun b=>b<w.heap.size) p.2 p.1∧G p.1:=fun i hi=>by
    obtain ⟨cs',h1,h2⟩:=hx i (by omega);obtain ⟨y,h3,h4⟩:=he.rd enc w n cs' _ h2 fun q hq=>hwt q (by
     rw [hxe];simp only [DataW.weights,ht,List.mem_cons,List.mem_append];exact .inr (.inl (zms (List.mem_map.2 ⟨i,by simpa using hi,rfl⟩) q hq)))
    exact ⟨(y,cs'),h1,h3,h4⟩
   have hmax2:len≤140737488351232:=by
    have h1:=hwt ((len+(m-len))*P.bytesOf e) (by rw [hxe];simp [DataW.weights,ht]);have h2:0<P.bytesOf e:=Nat.le_of_ble_eq_true hby;have h3:(len+(m-len))*1≤(len+(m-len))*P.bytesOf e:=Nat.mul_le_mul_left _ h2;have h4:reachBytes=140737488351232:=rfl;omega
   have hmax:len≤lim:=by have:maxLen≤lim:=by decide
                         omega
   by_cases h0:len=0
   ·subst h0;exact ⟨[],⟨_,rfl,some a,m,rfl,Nat.zero_le _,(fun h=>by cases h),Nat.zero_le _,fun h=>absurd rfl h⟩,Nat.zero_le _,by simp⟩
   have hinh:Inhabited (α × List Value):=⟨(hall 0 (by omega)).choose⟩;obtain ⟨f,hf⟩:=Deep.choose_lt hall;have hsz:=E.pos;rw [← he.sz] at hsz;obtain ⟨hcell0,hblk⟩:a.spot=none∧a.block<w.heap.size:=by
    obtain ⟨_,hl2,hcl⟩:=World.cells?_some (hf 0 (by omega)).1;have h2:=hcl 0 hsz;rw [List.getElem?_eq_getElem (by omega)] at h2;simp only [Nat.zero_mul,Addr.add,if_true,World.cell?] at h2;cases hb2:w.heap[a.block]? with
    | none=>simp [hb2] at h2
    | some o=>
     refine ⟨?_,(Array.getElem?_eq_some_iff.1 hb2).1⟩;cases o <;> simp [hb2] at h2;exact h2.1
   refine ⟨(List.range len).map (fun i=>(f i).1),⟨_,rfl,some a,m, ?_,by simpa using hl,(fun h=>by cases h),by simpa using hmax,fun _=>⟨a.block,a.off,(List.range len).map (fun i=>(f i).2), ?_,hblk,⟨by simp, ?_⟩, ?_⟩⟩,by simpa using hmax2, ?_⟩
   ·simp
   ·cases a;simp at hcell0;subst hcell0;rfl
   ·intro i c y hc1 hy1;have hi:i<len:=by have:=(List.getElem?_eq_some_iff.1 hc1).1;simpa using this
    simp [hi] at hc1 hy1;subst hc1;subst hy1;exact (hf i hi).2.1
   ·have hlens:∀c∈(List.range len).map (fun i=>(f i).2),c.length=E.sz:=by
     intro c hc;simp only [List.mem_map,List.mem_range] at hc;obtain ⟨i,hi,rfl⟩:=hc;rw [(World.cells?_some (hf i hi).1).2.1,he.sz]
    intro j u hj;have hjl:j<len*E.sz:=by
     have:=(List.getElem?_eq_some_iff.1 hj).1;rw [zhd hlens] at this;simpa using this
    have hp:0<E.sz:=E.pos;have hi:j / E.sz<len:=Nat.div_lt_of_lt_mul (by rw [Nat.mul_comm];exact hjl);have hk:j % E.sz<E.sz:=Nat.mod_lt _ hp;obtain ⟨_,hl2,hcl⟩:=World.cells?_some (hf _ hi).1;have hcell:=hcl (j % E.sz) (by rw [he.sz];exact hk);rw [he.sz] at hl2;have hg:=zhe hlens (i:=j / E.sz) (cs:=(f (j / E.sz)).2) (j:=j % E.sz) (u:=(f (j / E.sz)).2[j % E.sz]'(by omega)) (by simp [hi]) (by simp);rw [Nat.mul_comm,Nat.div_add_mod] at hg;rw [hg] at hj;rw [List.getElem?_eq_getElem (by omega),hj,Deep.add_add,he.sz,Nat.mul_comm,Nat.div_add_mod] at hcell;rw [← hcell];cases a;simp at hcell0;subst hcell0;rw [ze6]
   ·intro y hy;simp only [List.mem_map,List.mem_range] at hy;obtain ⟨i,hi,rfl⟩:=hy;exact (hf i hi).2.2
 ·intro w v hv _;simp only [Value.okWide,ht,Cell.okWide,Cell.ok] at hv;cases v <;> simp at hv;rfl
theorem u64_word {n:Int} (h:InR .u64 n):∃m:Nat,m<2 ^ 64∧n=m:=by
 simp [InR,IntKind.min,IntKind.max,IntKind.signed,IntKind.bits] at h;exact ⟨n.toNat,by omega,by omega⟩
theorem Rd.cls {P:Program} {t e:TypeId} (ht:P.underlying t=some (.array 4 e)) (hc:P.cellsOf t=4) (he:P.underlying e=some (.int .u64)) (hce:P.cellsOf e=1):Rd P t En.cls (fun _=>True):=by
 refine ⟨hc, ?_, ?_⟩
 ·intro H enc w fuel cs x h _;obtain ⟨xs,m,rfl,rfl,hlen,hn,hx⟩:=DataW.trod_array ht h;rw [hc] at hlen
  match cs,hlen with
  | [u0,u1,u2,u3],_=>
   have hx':∀i (hi:i<4) u,[u0,u1,u2,u3][i]?=some u→∃q:Nat,q<2 ^ 64∧u = .int .u64 q:=by
    intro i hi u hu;have h1:=hx i hi;rw [hce,Nat.mul_one,List.getElem?_eq_getElem (by omega)] at h1;have h2:List.take 1 (List.drop i [u0,u1,u2,u3])=[u]:=by
     match i,hi with
     | 0,_ | 1,_ | 2,_ | 3,_=>simp at hu;subst hu;rfl
    rw [h2] at h1;obtain ⟨n,h3,_,h4⟩:=DataW.trod_int he h1;obtain ⟨q,hq,rfl⟩:=u64_word (n:=n) (by simpa [Lit.wf,InR] using h4);simp at h3;exact ⟨q,hq,h3⟩
   obtain ⟨q0,h0,rfl⟩:=hx' 0 (by omega) u0 rfl;obtain ⟨q1,h1,rfl⟩:=hx' 1 (by omega) u1 rfl;obtain ⟨q2,h2,rfl⟩:=hx' 2 (by omega) u2 rfl;obtain ⟨q3,h3,rfl⟩:=hx' 3 (by omega) u3 rfl;refine ⟨Cl.ofWords q0 q1 q2 q3, ?_,trivial⟩;obtain ⟨e0,e1,e2,e3⟩:=Cl.ofWords_word h0 h1 h2 h3;show _=zb4 _;unfold zb4;rw [e0,e1,e2,e3]
 ·intro w v hv _;simp only [Value.okWide,ht] at hv;obtain ⟨cs,rfl,_⟩:=hv;simp [En.val,En.cls,Value.cells]
structure RdF (P:Program) (fs:List Field) (o:Nat) {α:Type} (E:En α) (G:α→Prop):Prop where
 rd:∀{H:Type} (enc:TypeId × Value→H) (w:World) (fuel:Nat) (cs:List Value) (xs:List (DataW H × List MemPlace)),xs.length=fs.length →
  (∀(i:Nat) (f:Field),fs[i]?=some f→DataW.trod enc P w 0 (fun _=>true) true fuel f.type ((cs.drop f.offset).take (P.cellsOf f.type))=xs[i]?) →
  (∀n∈DataW.weightsEach P (fs.map (·.type)) (xs.map (·.1)),n≤reachBytes)→∃y,E.R w (fun b=>b<w.heap.size) ((cs.drop o).take E.sz) y∧G y
theorem RdF.last {P:Program} {f:Field} {o:Nat} {α:Type} {E:En α} {G:α→Prop} (h:Rd P f.type E G) (ho:f.offset=o):RdF P [f] o E G:=⟨by
 intro H enc w fuel cs xs hl hx hw;obtain ⟨x,rfl⟩:∃x,xs=[x]:=List.length_eq_one_iff.1 hl;have h1:=hx 0 f rfl;rw [ho,h.sz] at h1;exact h.rd enc w fuel _ x h1 fun n hn=>hw n (by simp [DataW.weightsEach,hn])⟩
theorem RdF.solo {P:Program} {fs:List Field} {o:Nat} {α:Type} {E:En α} {G:α→Prop} (h:RdF P fs o E G):RdF P fs o E.solo G:=⟨h.rd⟩
theorem zny {xs:List Value} {o m n:Nat}:(xs.drop o).take (m+n)=(xs.drop o).take m++(xs.drop (o+m)).take n:=by
 rw [List.take_add,List.drop_drop]
theorem RdF.cons {P:Program} {f:Field} {fs:List Field} {o:Nat} {α β:Type} {E:En α} {F:En β} {G:α→Prop} {K:β→Prop} (h:Rd P f.type E G) (ho:f.offset=o) (hr:RdF P fs (o+E.sz) F K):RdF P (f::fs) o (E.cat F) (fun x=>G x.1∧K x.2):=⟨by
 intro H enc w fuel cs xs hl hx hw;obtain ⟨x,xs',rfl⟩:∃x xs',xs=x::xs':=by
  cases xs with
  | nil=>simp at hl
  | cons x xs'=>exact ⟨x,xs',rfl⟩
 have h1:=hx 0 f rfl;rw [ho,h.sz] at h1;obtain ⟨y,hy1,hy2⟩:=h.rd enc w fuel _ x h1 fun n hn=>hw n (by simp [DataW.weightsEach,hn]);obtain ⟨z,hz1,hz2⟩:=hr.rd enc w fuel cs xs' (by simpa using hl) (fun i g hg=>by have:=hx (i+1) g (by simpa using hg);simpa using this) fun n hn=>hw n (by
  simp only [List.map_cons,DataW.weightsEach,List.mem_append];exact .inr hn)
 exact ⟨(y,z),⟨_,_,zny,hy1,hz1⟩,hy2,hz2⟩⟩
theorem Rd.struct {P:Program} {t:TypeId} {fs:Array Field} {α:Type} {E:En α} {G:α→Prop} (ht:P.underlying t=some (.struct fs)) (ha:E.agg=true) (hc:P.cellsOf t=E.sz) (h:RdF P fs.toList 0 E G):Rd P t E G:=by
 refine ⟨hc, ?_, ?_⟩
 ·intro H enc w fuel cs x hx hw;obtain ⟨xs,n,rfl,rfl,hlen,hxl,hf⟩:=DataW.trod_struct ht hx;obtain ⟨y,hy1,hy2⟩:=h.rd enc w n cs xs (by simpa using hxl) (fun i f hi=>hf i f (by simpa using hi)) fun q hq=>hw q (by
   simp only [DataW.weights,ht];exact hq)
  rw [List.drop_zero,List.take_of_length_le (by rw [hlen,hc];exact Nat.le_refl _)] at hy1;exact ⟨y,hy1,hy2⟩
 ·intro w v hv _;obtain ⟨cs,rfl,_⟩:=okWide_struct ht hv;unfold En.val;rw [ha];simp [Value.cells]
theorem Rd.open {P:Program} {t:TypeId} {α:Type} {E:En α} {G:α→Prop} (hr:Rd P t E G) {H:Type} {enc:TypeId × Value→H} {W:World} {v:Value} {d:DataW H} {p:List MemPlace}
  (hv:Value.okWide P W .any 0 t v) (hd:DataW.Trod enc P W 0 (fun _=>true) true t v d p) (hw:∀n∈d.weights P t,n≤reachBytes):∃y,(Pd.rep E y).p ⟨W,fun _=>False,fun _ h=>h.elim⟩ v∧G y:=by
 obtain ⟨fuel,h⟩:=hd;obtain ⟨y,hy,hg⟩:=hr.rd enc W fuel _ _ h hw;refine ⟨y,⟨v.cells.toList,hr.vl W v hv ⟨y,hy⟩, ?_⟩,hg⟩;exact E.mono (fun b hb=>⟨hb,fun h=>h⟩) hy
theorem Ex.below {s s':St} (h:Ex s s'):Below s.w.heap.size s.w s'.w:=⟨h.mv.os,h.mv.tape,h.mv.output,h.mv.size,fun k hk=>h.mv.blk k hk (fun h=>h)⟩
theorem okWide_any {P:Program} {W:World} {b:Nat} {t:TypeId} {v:Value} (h:Value.okWide P W .any b t v):Value.okWide P W .any 0 t v:=by
 unfold Value.okWide Row.okWide Cell.okWide Cell.ok World.has at *;exact h
section
variable {H : Type} {enc : TypeId × Value → H} {P : Program}
theorem stays {W W':World} (hl:laidOutB P=true) (hb:Below W.heap.size W W') {sp:Nat→Bool}:∀{ts:List TypeId} {vs:List Value} {ds:List (DataW H)} {ps:List MemPlace},
  (ts.all fun t=>P.readableRec t&&decide (t<P.types.size))=true→DataW.TrodAll enc P W 0 (fun _=>true) true ts vs ds ps→(∀p∈ps,p.block<W.heap.size)→(∀p∈ps,sp p.block=true) →
  DataW.TrodAll enc P W' 0 sp true ts vs ds ps
 | [],vs,ds,ps,_,h,_,_=>by
  obtain ⟨rfl,rfl,rfl⟩:=trodAll_nil h;exact trodAll_mk0
 | t::ts,vs,ds,ps,ha,h,hlt,hsp=>by
  obtain ⟨v,vs',d,ds',p,q,rfl,rfl,rfl,h1,h2⟩:=trodAll_cons h;simp only [List.all_cons,Bool.and_eq_true,decide_eq_true_eq] at ha;refine trodAll_cons_mk (WideElems.Trod_stays hl ha.1.1 ha.1.2 h1 (fun x hx=>hb.same (hlt x (List.mem_append_left _ hx))) fun x hx=>hsp x (List.mem_append_left _ hx)) ?_;exact stays hl hb (by simpa using ha.2) h2 (fun x hx=>hlt x (List.mem_append_right _ hx)) fun x hx=>hsp x (List.mem_append_right _ hx)
theorem post_law {f:Func} {s:ChangeSpec} {apart fresh handsOn again:Bool} {W W':World} {args:Array Value} {v:Value} {ds gs:List (DataW H)} {before:List MemPlace} {tb:TypeId}
  (hW:DataW.Whole enc P f.params.toList s.vars apart W args.toList ds gs before) (hb:Below W.heap.size W W') (hl:laidOutB P=true)
  (hrd:(f.params.toList.all fun t=>P.readableRec t&&decide (t<P.types.size))=true) (hs:s.vars=[]) (hrt:f.resultTypes = #[tb]) (hub:P.underlying tb=some .bool) (hv:v = .bool true)
  (hres:(s.fn H (ds++gs)).results=[.lit (.bool true)]) (hargs:(s.fn H (ds++gs)).args=ds) (hvars:(s.fn H (ds++gs)).vars=[]):s.post enc P f apart fresh handsOn again W args v W':=by
 subst hv;have hlt:=hW.lt;have hW':=hW;obtain ⟨p,q,hA,hV,rfl,hz,hn⟩:=hW;rw [hs] at hV;obtain ⟨rfl,rfl⟩:=trodVars_none hV;have hsub:∀x∈p,x∈p++([]:List MemPlace):=fun x hx=>by simpa using hx
 have harg:∀sp:Nat→Bool,(∀x∈p++([]:List MemPlace),sp x.block=true)→DataW.TrodAll enc P W' 0 sp true f.params.toList args.toList (s.fn H (ds++[])).args p:=fun sp hsp=>by
  rw [hargs];exact stays hl hb hrd hA (fun x hx=>hlt x (hsub x hx)) fun x hx=>hsp x (hsub x hx)
 have hvar:∀sp:Nat→Bool,DataW.TrodVars enc P W' sp s.vars (s.fn H (ds++[])).vars []:=fun sp=>by rw [hs,hvars];exact rfl
 have hr:∀(b:Nat) (sp:Nat→Bool) (hd:Bool),DataW.TrodAll enc P W' b sp hd f.resultTypes.toList ((Value.bool true).resultList f.resultTypes.size) (s.fn H (ds++[])).results []:=fun b sp hd=>by
  rw [hres,hrt];exact trodAll_cons_mk (shut_bool hub _) trodAll_mk0
 have hold:∀x∈p++([]:List MemPlace),(fun b=>decide (b<W.heap.size)) x.block=true:=fun x hx=>by simpa using hlt x hx
 refine ⟨ds,[],p++[],[],p,[],hW',hr _ _ _,harg _ hold,hvar _,World.keptBut_mono (fun x hx=>⟨hx, ?_⟩) (hb.frame (·∈p++[])),fun _=>?_⟩
 ·simpa using hx
 ·refine ⟨ok_one hrt rfl (okWide_bool_mk hub _),_,_,([]++p)++[],⟨[]++p,[],trodAll_append (harg _ (fun _ _=>rfl)) (hr _ _ _),hvar _,rfl, ?_, ?_⟩, ?_⟩
  ·intro b off hp;have hp':MemPlace.cell b off∈p++([]:List MemPlace):=by simpa using hp
   rw [hb.frozen (p:=⟨b,off,none⟩) (hlt _ hp')];exact hz b off hp'
  ·intro ha;simpa using hn ha
  ·intro x hx _;simpa using hx
end
end Go.Proofs.YtahgmdbioafmbaaGreatDoor.V
namespace Go.Proofs.YtahgmdbioafmbaaGreatDoor.V
open Go Go.ChangeShapes Go.WideShapes Go.RowKit
set_option linter.unusedVariables false
def lst4:List (String × DataW Unit):=[("math/bits.deBruijn32tab",Rows.laid_math_bits_deBruijn32tab),("math/bits.deBruijn64tab",Rows.laid_math_bits_deBruijn64tab),("internal/strconv.uint64pow10",Rows.laid_internal_strconv_uint64pow10),("scantling/heads.readies",Rows.laid_scantling_heads_readies)]
def lst:List (String × DataW Unit):=[("math/bits.deBruijn32tab",Rows.laid_math_bits_deBruijn32tab),("math/bits.deBruijn64tab",Rows.laid_math_bits_deBruijn64tab),("internal/strconv.uint64pow10",Rows.laid_internal_strconv_uint64pow10),("scantling/heads.readies",Rows.laid_scantling_heads_readies),("scantling/next.steps",Rows.laid_scantling_next_steps)]
theorem zoo {H:Type} {enc:TypeId × Value→H} {P:Program} {w:World} {base:Nat} {sp:Nat→Bool} {held:Bool} {fuel:Nat} {t e:TypeId} {n:Nat} {cs:List Value} {bs:List Bool} {p:List MemPlace}
  (ht:P.underlying t=some (.array n e)) (he:P.underlying e=some .bool) (hce:P.cellsOf e=1) (hct:P.cellsOf t=n)
  (h:DataW.trod enc P w base sp held fuel t cs=some (.agg (bs.map fun b=>.lit (.bool b)),p)):cs=bs.map Value.bool:=by
 obtain ⟨xs,m,rfl,hx,hl,hn,hf⟩:=DataW.trod_array ht h;have hx1:=congrArg Prod.fst hx;simp only [DataW.agg.injEq] at hx1;have hbl:bs.length=n:=by
  have:=congrArg List.length hx1;simp at this;omega
 apply List.ext_getElem?;intro i
 by_cases hi:i<n
 ·have h1:=hf i hi;rw [hce,Nat.mul_one,List.getElem?_eq_getElem (by omega)] at h1;obtain ⟨b,hc,hb⟩:=DataW.trod_bool he h1;have h2:cs[i]?=some (.bool b):=by
   have:=congrArg (·[0]?) hc;simpa [List.getElem?_take,List.getElem?_drop] using this
  have h3:(bs.map fun b=>(DataW.lit (.bool b):DataW H))[i]?=some (.lit (.bool b)):=by
   rw [hx1,List.getElem?_map,List.getElem?_eq_getElem (by omega),hb];rfl
  rw [List.getElem?_map,Option.map_eq_some_iff] at h3;obtain ⟨b',hb',e⟩:=h3;cases e;rw [h2,List.getElem?_map,hb'];rfl
 ·rw [List.getElem?_eq_none (by omega),List.getElem?_eq_none (by simp;omega)]
def nameB1:List UInt8:=[40,115,99,97,110,116,108,105,110,103,47,110,101,120,116,46,115,116,101,112,41,46,110,111,100,101]
def nameB3:List UInt8:=[40,115,99,97,110,116,108,105,110,103,47,110,101,120,116,46,115,116,101,112,41,46,116,101,120,116]
def nameB4:List UInt8:=[40,115,99,97,110,116,108,105,110,103,47,110,101,120,116,46,115,116,101,112,41,46,104,97,108,102]
def stepsD:DataW Unit:=.map [(.int .i64 1,.iface "func" (.lit (.string nameB1))),(.int .i64 3,.iface "func" (.lit (.string nameB3))),(.int .i64 4,.iface "func" (.lit (.string nameB4)))]
def stepsL:List (Lit × DataW (List UInt8)):=[(.int .i64 1,.held nameB1),(.int .i64 3,.held nameB3),(.int .i64 4,.held nameB4)]
theorem key_int {P:Program} {k:TypeId} (hk:P.underlying k=some (.int .i64)) {v:Value} {l:Lit} (h:keyOf P k v=some l):∃n:Int,v = .int .i64 n∧l = .int .i64 n∧InR .i64 n:=by
 rw [keyOf_int hk] at h;unfold mapKey at h;rw [hk] at h;cases v <;> simp at h;obtain ⟨⟨rfl,h2⟩,rfl⟩:=h;exact ⟨_,rfl,rfl,by simpa [Lit.wf,InR] using h2⟩
theorem zp8 {P:Program} {t:TypeId} {ps rs:Array TypeId} {va:Bool} {v:Value} (ht:P.underlying t=some (.func ps rs va)) (h:v.formed P t=true):v.cells.toList=[v]:=by
 cases v <;> simp [Value.formed,ht] at h <;> rfl
def entY (e:MapEntry):Int × Option Nat:=match e.key with | .int _ n=>(n,ze4 gfmS n none) | _=>(0,none)
def entL (q:Lit × DataW (List UInt8)):Int × Option Nat:=match q.1 with | .int _ n=>(n,ze4 gfmS n none) | _=>(0,none)
def Steps (W:World):Prop:=∃m t fr es clock ys,W.heap[0]?=some (.cells #[.map (some m)] t fr)∧W.heap[m]?=some (.map es clock)∧Fmst es clock ys∧ys.Perm gfmS
theorem znz {W:World} (h:funcsAt Tryz.prog W "scantling/next.steps" stepsD):Steps W:=by
 obtain ⟨g,t,cs,fuel,p,hg,ht,hv,hd⟩:=h;have hg':Tryz.prog.globalNamed "scantling/next.steps"=some 0:=by kernel_rfl
 have hty:(Tryz.prog.globals[0]?).map (·.type)=some 167:=by kernel_rfl
 obtain rfl:=Option.some.inj (hg'.symm.trans hg);obtain rfl:=Option.some.inj (hty.symm.trans ht);have e:DataW.funcsOut stepsD = .map stepsL:=by kernel_rfl
 rw [e] at hd;have hkt:Tryz.prog.underlying 3=some (.int .i64):=Tryz.underlying3;rcases WideElems.open_map Tryz.underlying167 hd with ⟨_,hx⟩ | ⟨m,es,clock,n,rfl,hcs,hb,_,F,hx⟩
 ·simp at hx
 ·simp only [Prod.mk.injEq,DataW.map.injEq] at hx;have hp:stepsL.Perm (es.toList.map (WideElems.rg Tryz.prog 3 (WideElems.elemAt (funcToken Tryz.prog) Tryz.prog W 0 (fun _=>true) true n 165))):=by
   rw [hx.1];exact sorted_perm _
  have ent:∀x∈es.toList,∃i:Int,x.key = .int .i64 i∧InR .i64 i∧entL (WideElems.rg Tryz.prog 3 (WideElems.elemAt (funcToken Tryz.prog) Tryz.prog W 0 (fun _=>true) true n 165) x)=(i,ze4 gfmS i none)∧x.val=fidV (ze4 gfmS i none):=by
   intro x hx';obtain ⟨y,hy⟩:=F.reads x hx';have hrg:=WideElems.rg_of hy;have hm:y∈stepsL:=hp.mem_iff.2 (List.mem_map.2 ⟨x,hx',hrg⟩);obtain ⟨i,hk1,hk2,hk3⟩:=key_int hkt (WideElems.rd_key hy);obtain ⟨z,hz1,hz2⟩:=WideElems.rd_val hy;unfold WideElems.elemAt at hz1;split at hz1
   case isFalse=>cases hz1
   rename_i hf
   rw [zp8 Tryz.underlying165 hf] at hz1;refine ⟨i,hk1,hk3,by rw [hrg];simp only [entL,hk2], ?_⟩;unfold stepsL at hm;simp only [List.mem_cons,List.not_mem_nil,or_false] at hm;rcases hm with rfl | rfl | rfl
   ·simp only [Lit.int.injEq,true_and] at hk2;subst hk2;obtain ⟨z1,z2⟩:=z;simp only at hz2;subst hz2;exact func_of_trod (f0:=209) Tryz.underlying165 (by kernel_rfl) hz1
   ·simp only [Lit.int.injEq,true_and] at hk2;subst hk2;obtain ⟨z1,z2⟩:=z;simp only at hz2;subst hz2;exact func_of_trod (f0:=210) Tryz.underlying165 (by kernel_rfl) hz1
   ·simp only [Lit.int.injEq,true_and] at hk2;subst hk2;obtain ⟨z1,z2⟩:=z;simp only at hz2;subst hz2;exact func_of_trod (f0:=207) Tryz.underlying165 (by kernel_rfl) hz1
  obtain ⟨o,ho,hcell⟩:∃t fr,W.heap[0]?=some (.cells #[.map (some m)] t fr):=by
   unfold World.var? at hv;rw [hg'] at hv;simp only [Option.bind_some] at hv;split at hv
   ·rename_i cs' t' fr' hc
    refine ⟨t',fr', ?_⟩;rw [hc];simp only [Option.some.injEq] at hv;rw [hv,← Array.toArray_toList (xs:=cs),hcs]
   ·cases hv
  refine ⟨m,o,ho,es,clock,es.toList.map entY,hcell,hb,⟨F.stamped,by simp,fun i e q h1 h2=>?_⟩, ?_⟩
  ·have hm:=List.mem_of_getElem? h1;obtain ⟨j,hk1,hk3,_,hval⟩:=ent e hm;rw [List.getElem?_map,h1] at h2;simp only [Option.map_some,Option.some.injEq] at h2;subst h2;have hr:=zjc.1 hk3;simp only [entY,hk1];exact ⟨trivial,hr,hval⟩
  ·have h3:=(hp.map entL).symm;have e1:stepsL.map entL=gfmS:=by kernel_rfl
   rw [e1,List.map_map] at h3;refine List.Perm.trans (List.Perm.of_eq (List.map_congr_left fun x hx'=>?_)) h3;obtain ⟨j,hk1,_,hL,_⟩:=ent x hx';simp only [Function.comp,entY,hk1];exact hL.symm
def Tabs (W:World):Prop:=(Lib.TabIs Tryz.prog W "internal/strconv.uint64pow10" .u64 Lib.pow10Tab∧W.var? Tryz.prog "scantling/heads.readies"=some (gdat1.map Value.bool).toArray)∧Steps W
theorem tab_of_laid {W:World} (h:laidMetH Tryz.prog lst W):Tabs W:=by
 have hs:("scantling/next.steps",(DataW.iface "func table" stepsD:DataW Unit))∈lst:=by
  have e:(Rows.laid_scantling_next_steps:DataW Unit)=DataW.iface "func table" stepsD:=by kernel_rfl
  unfold lst;rw [e];simp
 have h3:=znz (h.funcs hs);have e0:laidMetH Tryz.prog lst W=(laidMet Tryz.prog lst4 W∧handlesMet Tryz.prog [("scantling/next.steps",Rows.laid_scantling_next_steps)] W):=by kernel_rfl
 rw [e0] at h;have h':=h.1;unfold lst4 at h';refine ⟨⟨?_, ?_⟩,h3⟩
 ·have e:(Rows.laid_internal_strconv_uint64pow10:DataW Unit)=Lib.tabData .u64 Lib.pow10Tab:=by kernel_rfl
  have h2:=h'.tail.tail;rw [e] at h2;exact Lib.tabIs_of_head (g:=2) (t:=227) (e:=49) (n:=20) (by kernel_rfl) (by kernel_rfl) Tryz.underlying227 Tryz.underlying49 (by kernel_rfl) (by kernel_rfl) h2
 ·have e:(Rows.laid_scantling_heads_readies:DataW Unit) = .agg (gdat1.map fun b=>.lit (.bool b)):=by kernel_rfl
  have h2:=h'.tail.tail.tail;rw [e] at h2;obtain ⟨ps,⟨g',t',cs,fuel,p,q,hg',ht',hvar,hd,_,_⟩,_⟩:=h2;have hg:Tryz.prog.globalNamed "scantling/heads.readies"=some 1:=by kernel_rfl
  have hty:(Tryz.prog.globals[1]?).map (·.type)=some 213:=by kernel_rfl
  obtain rfl:=Option.some.inj (hg.symm.trans hg');obtain rfl:=Option.some.inj (hty.symm.trans ht');rw [hvar,← zoo Tryz.underlying213 (e:=4) Tryz.underlying4 (by kernel_rfl) (by kernel_rfl) hd]
theorem gl_of_tab {W:World} (h:Tabs W):Gl ⟨W,fun _=>False,fun _ h=>h.elim⟩:=by
 obtain ⟨⟨h1,h2⟩,h3⟩:=h;refine ⟨fun p hp=>?_,fun p hp=>?_⟩
 ·unfold gtab at hp;rcases List.mem_cons.1 hp with rfl | hp
  ·refine ⟨fun h=>h, ?_⟩;unfold Lib.TabIs World.var? at h1;have hg:Tryz.prog.globalNamed "internal/strconv.uint64pow10"=some 2:=by kernel_rfl
   rw [hg] at h1;simp only [Option.bind_some] at h1;split at h1
   ·rename_i cs t fr hc
    refine ⟨t,fr, ?_⟩;show W.heap[2]?=_;rw [hc];simp only [Option.some.injEq] at h1;rw [h1];simp [Lib.pow10Tab]
   ·cases h1
  ·obtain rfl:=List.mem_singleton.1 hp;refine ⟨fun h=>h, ?_⟩;unfold World.var? at h2;have hg:Tryz.prog.globalNamed "scantling/heads.readies"=some 1:=by kernel_rfl
   rw [hg] at h2;simp only [Option.bind_some] at h2;split at h2
   ·rename_i cs t fr hc
    refine ⟨t,fr, ?_⟩;show W.heap[1]?=_;rw [hc];simp only [Option.some.injEq] at h2;rw [h2]
   ·cases h2
 ·unfold gmap at hp;obtain rfl:=List.mem_singleton.1 hp;obtain ⟨m,t,fr,es,clock,ys,k1,k2,k3,k4⟩:=h3;exact ⟨fun h=>h,m,t,fr,es,clock,ys,k1,fun h=>h,k2,k3,k4⟩
noncomputable def laidWorld (os:Os):World:=World.doorLaid Tryz.prog 400 os
theorem laid_met (os:Os) (args:Array Value):laidMetH Tryz.prog lst ((laidWorld os).forCall (fun _ _=>0) ⟨#[],args,[]⟩).memory:=
 laidMetH_of_parts3 (fuel:=8) (laidMet_of_run' 8 (by kernel_rfl) (by kernel_rfl)) (by kernel_rfl) (by kernel_rfl)
theorem weigh {H:Type} {P:Program} {ts:List TypeId} {ds:List (DataW H)} (h:(DataW.weightsEach P ts ds).all (·≤reachBytes)=true) (j:Nat) {t:TypeId} {d:DataW H} (ht:ts[j]?=some t) (hd:ds[j]?=some d):∀n∈d.weights P t,n≤reachBytes:=fun n hn=>by
 have:=List.all_eq_true.1 h n (DataW.weights_mem_each ht hd n hn);simpa using this
end Go.Proofs.YtahgmdbioafmbaaGreatDoor.V
