/-
  The texts that the law's proof needs, part 3.
-/
import Derived.BigCall
import Derived.Lib.AppendIntMem
import Derived.Lib.ItoaLen
import Derived.Shelf.LaysM
import Derived.Shelf.SlLaysF
import Derived.Shelf.SlLaysF0
import Derived.Shelf.Strconv.Itoa3
import Derived.Shelf.Strings.BuilderK
import Derived.WalkKit
import Derived.Test.YtjdaaiodniicoaaGreatDoorTwicePartsP2

namespace Go.Proofs.YtjdaaiodniicoaaGreatDoor.V
open Go Go.MapKept
set_option linter.unusedVariables false
set_option maxRecDepth 100000
theorem cross_ok {d:List SNode} {g:Nat} {p1 p2:Bool} {x:Int × Int × Int × Int × Int} (h0:x.2.2.2.2=0) {rd:SDesc × List Int × Option Nat} {f1 f2 f3:FuncId} {cs1 cs2 cs3:List Pd} {e1:∀q∈cs1,q.Enc} {e2:∀q∈cs2,q.Enc} {e3:∀q∈cs3,q.Enc}
  (h1:∀xs,zk0 d xs→PrtFc f1 d g p1 xs ([Pd.rep (En.int .i64) 0]++cs1)) (h2:∀xs,zk0 d xs→PrtFc f2 d g p2 xs ([Pd.rep (En.int .i64) 0]++cs2)) (h3:Fn Tryz.prog f3 ([Pd.rep En.vtw (),Pd.rep En.vtw ()]++cs3) (Rq (Pd.rep En.vtw ()))) {xs:List (Tsk × List Unit)} (hxs:zk0 d xs):
  PrtFc 163 d g (p1&&p2) xs [Pd.ptr EnRd rd,Pd.rep EnTk x,Pd.fv f1 cs1 e1,Pd.fv f2 cs2 e2,Pd.rep (En.int .i64) 0,Pd.fv f3 cs3 e3]:=by
 refine fc_of Tryz.func163 rfl Tryz.ntmps163 (by rfl) (by simp) fun s0 a hL=>?_;have hgs:g<s0.w.heap.size:=by
  obtain ⟨hX,_⟩:=hL.get 999902 rfl;exact s0.lt g hX
 refine wp_seq_k fun K1 hK1=>?_;refine rg ?_;refine st 7 (zgd (o_t 1 rfl) rfl rfl) rfl rfl hL fun a s e_ hL=>?_;refine st 12 (zp (q:=Pd.any) (fun _ _ _ _ _ _=>trivial) rfl rfl) rfl rfl hL fun a s e_ hL=>?_;refine en' ?_;show K1 a s.w;refine hK1 _ _ ?_;refine wp_seq_k fun K2 hK2=>?_;refine rg ?_;refine st 13 (zp (o_nil (E:=En.vtw) (N:=s0.w.heap.size) (te:=257)) rfl rfl) rfl rfl hL fun a s e_ hL=>?_;refine en' ?_;show K2 a s.w;refine hK2 _ _ ?_;refine wp_seq_k fun K3 hK3=>?_;refine wp_seq_k fun K4 hK4=>?_;refine rg ?_;refine st 20 (zj (o_t 4 rfl) rfl rfl) rfl rfl hL fun a s e_ hL=>?_;refine st 14 (zp (o_t 20 rfl) rfl rfl) rfl rfl hL fun a s e_ hL=>?_;refine en' ?_;show K4 a s.w;refine hK4 _ _ ?_;refine wp_block ?_;have ogs:∀{a:Act} {s:St} {L:Lst} {t:Nat} {og:Option Nat} {out:List Unit},Has (fun b=>some g=some b) 61 s0 a s L→lk L t=some (Pd.row En.vtw s0.w.heap.size 257 og out)→Dis og (some g):=fun hL hl=>own_g hgs fun b hb=>(ziw (hL.get _ hl) b hb).1;have J:∀(a:Act) (s:St) (out:List Unit) (og:Option Nat) (ys:List (Tsk × List Unit)),Has (fun b=>some g=some b) 61 s0 a s [(13,Pd.row En.vtw s0.w.heap.size 257 og out),(999902,Pd.mapc En.tsk kvTsk EnKs g ys)]→zk0 d ys→out.length≤2→(out≠[]↔(p1&&p2)=true)→K3 a s.w:=by
  intro a s out og ys hL hys hl hp;have hd:=ogs hL (t:=13) rfl;refine hK3 _ _ ?_;refine wp_seq_k fun K7 hK7=>?_;refine rg ?_;obtain ⟨s2,hw2,hL⟩:=hL.freeze (L':=[(999902,Pd.mapc En.tsk kvTsk EnKs g ys)]) 13 rfl (.cons (t:=999902) rfl hd.symm.ow .nil);rw [← hw2];clear hw2;generalize s2=s at *;refine st 60 (zj (o_t 13 rfl) rfl rfl) rfl rfl hL fun a s e_ hL=>?_;refine st 12 (zp (o_t 60 rfl) rfl rfl) rfl rfl hL fun a s e_ hL=>?_;refine en' ?_;show K7 a s.w;refine hK7 _ _ ?_;exact wp_ret (retc (out,ys) ⟨⟨hl,hp⟩,hys⟩ rfl hL rfl rfl)
 refine lpg (fun k a s=>∃(c:Int) (out:List Unit) (og:Option Nat) (ys:List (Tsk × List Unit)),Has (fun b=>some g=some b) 61 s0 a s [(2,Pd.fv f1 cs1 e1),(3,Pd.fv f2 cs2 e2),(5,Pd.fv f3 cs3 e3),(7,Pd.ptr EnTk x),(13,Pd.row En.vtw s0.w.heap.size 257 og out),(14,Pd.rep (En.int .i64) c),(999902,Pd.mapc En.tsk kvTsk EnKs g ys)]∧zk0 d ys ∧
   (k=2∧c=0∧out=[]∨k=1∧c=1∧out.length≤2∧(out≠[]↔(p1&&p2)=true))) 2
  ⟨0,[],none,xs,hL.keep (.cons (t:=2) rfl nE (.cons (t:=3) rfl nE (.cons (t:=5) rfl nE (.cons (t:=7) rfl nE (.cons (t:=13) rfl (fun _ _ h_=>h_) (.cons (t:=14) rfl nE (.cons (t:=999902) rfl (fun _ _ h_=>h_) .nil))))))),hxs,.inl ⟨rfl,rfl,rfl⟩⟩ ?_
 rintro k a s ⟨c,out,og,ys,hL,hys,hc⟩ KL hKL;refine wp_seq_k fun K5 hK5=>?_;refine wp_seq_k fun K6 hK6=>?_;refine rg ?_;refine st 21 (zj (o_t 14 rfl) rfl rfl) rfl rfl hL fun a s e_ hL=>?_;refine st 22 (zdb (off:=4) (o_t 7 rfl) Tryz.underlying184 rfl (ze (ze (ze (ze (zn _ _) rfl) rfl) rfl) rfl) rfl ty3 rfl rfl) rfl rfl hL fun a s e_ hL=>?_;refine st 23 (zw ty3 (o_t 22 rfl) rfl rfl) rfl rfl hL fun a s e_ hL=>?_;refine st 24 (t_leq (o_t 21 rfl) (o_t 23 rfl) rfl rfl) rfl rfl hL fun a s e_ hL=>?_;refine st 25 (zj (o_t 24 rfl) rfl rfl) rfl rfl hL fun a s e_ hL=>?_;refine st 26 (zfk rfl rfl rfl (fun hc_=>zj (o_t 13 rfl) rfl rfl)) rfl rfl hL fun a s e_ hL=>?_;refine st 27 (zfk rfl rfl rfl (fun hc_=>t_leno (o_w hc_ 26 rfl) Tryz.underlying143 rfl rfl)) rfl rfl hL fun a s e_ hL=>?_;refine st 28 (zfk rfl rfl rfl (fun hc_=>zi1 (o_w hc_ 27 rfl) (o_i (k:=.i64) (by decide)) rfl rfl)) rfl rfl hL fun a s e_ hL=>?_;refine st 29 (zpm (o_t 25 rfl) (fun hc2_=>(o_w hc2_ 28 rfl)) rfl rfl) rfl rfl hL fun a s e_ hL=>?_;refine en' ?_;show K6 a s.w;refine hK6 _ _ ?_;replace hL:=hL.kk (L':=[(29,Pd.rep En.bool (decide (c≤x.2.2.2.2)&&decide ((out.length:Int)<2))),(2,Pd.fv f1 cs1 e1),(3,Pd.fv f2 cs2 e2),(5,Pd.fv f3 cs3 e3),(7,Pd.ptr EnTk x),(13,Pd.row En.vtw s0.w.heap.size 257 og out),(14,Pd.rep (En.int .i64) c),(999902,Pd.mapc En.tsk kvTsk EnKs g ys)]);refine cnd hL rfl (fun hb_=>?_) (fun hb_=>?_)
 case refine_2=>
  refine wp_exit ?_;rcases hc with ⟨rfl,rfl,rfl⟩ | ⟨rfl,rfl,hl,hp⟩
  ·rw [h0] at hb_;simp at hb_
  ·exact J a s out og ys (hL.keep (.cons (t:=13) rfl (fun _ _ h_=>h_) (.cons (t:=999902) rfl (fun _ _ h_=>h_) .nil))) hys hl hp
 obtain ⟨rfl,rfl,rfl⟩:k=2∧c=0∧out=[]:=by
  rcases hc with h | ⟨rfl,rfl,_⟩
  ·exact h
  ·rw [h0] at hb_;simp at hb_
 refine wp_skip ?_;show K5 a s.w;refine hK5 _ _ ?_;refine wp_seq_k fun K17 hK17=>?_;refine wp_block ?_;have J2:∀(a:Act) (s:St) (out:List Unit) (og:Option Nat) (ys:List (Tsk × List Unit)),Has (fun b=>some g=some b) 61 s0 a s [(2,Pd.fv f1 cs1 e1),(3,Pd.fv f2 cs2 e2),(5,Pd.fv f3 cs3 e3),(7,Pd.ptr EnTk x),(13,Pd.row En.vtw s0.w.heap.size 257 og out),(14,Pd.rep (En.int .i64) 0),(999902,Pd.mapc En.tsk kvTsk EnKs g ys)]→zk0 d ys→out.length≤2→(out≠[]↔(p1&&p2)=true)→K17 a s.w:=by
  intro a s out og ys hL hys hl hp;refine hK17 _ _ ?_;refine rg ?_;refine st 30 (zj (o_t 14 rfl) rfl rfl) rfl rfl hL fun a s e_ hL=>?_;refine st 31 (zi6 (a:=0) (b:=1) (o_t 30 rfl) (o_i (k:=.i64) (by decide)) (by decide) rfl rfl) rfl rfl hL fun a s e_ hL=>?_;refine st 14 (zp (o_t 31 rfl) rfl rfl) rfl rfl hL fun a s e_ hL=>?_;refine en' ?_;exact hKL 1 a s (by omega) ⟨0+1,out,og,ys,hL.keep (.cons (t:=2) rfl nE (.cons (t:=3) rfl nE (.cons (t:=5) rfl nE (.cons (t:=7) rfl nE (.cons (t:=13) rfl (fun _ _ h_=>h_) (.cons (t:=14) rfl nE (.cons (t:=999902) rfl (fun _ _ h_=>h_) .nil))))))),hys,.inr ⟨rfl,rfl,hl,hp⟩⟩
 have d13:=ogs hL (t:=13) rfl;refine wp_seq_k fun K18 hK18=>?_;refine rg ?_;refine st 32 (zj (o_t 2 rfl) rfl rfl) rfl rfl hL fun a s e_ hL=>?_;refine st 33 (zj (o_t 14 rfl) rfl rfl) rfl rfl hL fun a s e_ hL=>?_;refine st_callcv (t:=32) (qs:=[Pd.rep (En.int .i64) 0]) (L':=[(2,Pd.fv f1 cs1 e1),(3,Pd.fv f2 cs2 e2),(5,Pd.fv f3 cs3 e3),(7,Pd.ptr EnTk x),(13,Pd.row En.vtw s0.w.heap.size 257 og []),(14,Pd.rep (En.int .i64) 0)]) 34 999902 hL (o_t 32 rfl) (h1 ys hys) rfl (.inl rfl) (zs:=[.tmp 33]) (.cons (o_t 33 rfl) .nil) rfl rfl rfl rfl
  (.cons (t:=2) rfl nE (.cons (t:=3) rfl nE (.cons (t:=5) rfl nE (.cons (t:=7) rfl nE (.cons (t:=13) rfl d13.ow (.cons (t:=14) rfl nE .nil)))))) fun a s im him hL=>?_
 obtain ⟨l1,ys1⟩:=im;obtain ⟨⟨hl1,hp1⟩,hys1⟩:=him;simp only at hl1 hp1 hys1;refine st 15 (zp (o_t 34 rfl) rfl rfl) rfl rfl hL fun a s e_ hL=>?_;refine en' ?_;show K18 a s.w;refine hK18 _ _ ?_;refine wp_seq_k fun K19 hK19=>?_;refine wp_seq_k fun K20 hK20=>?_;refine rg ?_;refine st 35 (zj (o_t 15 rfl) rfl rfl) rfl rfl hL fun a s e_ hL=>?_;refine st 36 (zi2 (o_t 35 rfl) Tryz.underlying143 rfl rfl) rfl rfl hL fun a s e_ hL=>?_;refine st 37 (zgp (o_t 36 rfl) (o_i (k:=.i64) (by decide)) rfl rfl) rfl rfl hL fun a s e_ hL=>?_;refine en' ?_;show K20 a s.w;refine hK20 _ _ ?_;refine cnd hL rfl (fun hb2_=>?_) (fun hb2_=>?_)
 ·refine wp_exit ?_;have hn1:p1=false:=by
   have e:l1=[]:=List.eq_nil_of_length_eq_zero (by simpa using hb2_);cases p1
   ·rfl
   ·exact absurd e (hp1.2 rfl)
  exact J2 a s [] og ys1 (hL.keep (.cons (t:=2) rfl nE (.cons (t:=3) rfl nE (.cons (t:=5) rfl nE (.cons (t:=7) rfl nE (.cons (t:=13) rfl (fun _ _ h_=>h_) (.cons (t:=14) rfl nE (.cons (t:=999902) rfl (fun _ _ h_=>h_) .nil)))))))) hys1 (by simp) (by rw [hn1];simp)
 have hne1:l1≠[]:=fun e=>by rw [e] at hb2_;simp at hb2_
 have hp1':p1=true:=hp1.1 hne1;refine wp_skip ?_;show K19 a s.w;refine hK19 _ _ ?_;refine wp_seq_k fun K21 hK21=>?_;refine rg ?_;refine st 38 (zj (o_t 3 rfl) rfl rfl) rfl rfl hL fun a s e_ hL=>?_;refine st 39 (zj (o_t 14 rfl) rfl rfl) rfl rfl hL fun a s e_ hL=>?_;refine st_callcv (t:=38) (qs:=[Pd.rep (En.int .i64) 0]) (L':=[(2,Pd.fv f1 cs1 e1),(3,Pd.fv f2 cs2 e2),(5,Pd.fv f3 cs3 e3),(7,Pd.ptr EnTk x),(13,Pd.row En.vtw s0.w.heap.size 257 og []),(14,Pd.rep (En.int .i64) 0),(15,Pd.rep EnKs l1)]) 40 999902 hL (o_t 38 rfl) (h2 ys1 hys1) rfl (.inl rfl) (zs:=[.tmp 39]) (.cons (o_t 39 rfl) .nil) rfl rfl rfl rfl
  (.cons (t:=2) rfl nE (.cons (t:=3) rfl nE (.cons (t:=5) rfl nE (.cons (t:=7) rfl nE (.cons (t:=13) rfl d13.ow (.cons (t:=14) rfl nE (.cons (t:=15) rfl nE .nil))))))) fun a s im him hL=>?_
 obtain ⟨l2,ys2⟩:=im;obtain ⟨⟨hl2,hp2⟩,hys2⟩:=him;simp only at hl2 hp2 hys2;refine st 41 (zi2 (o_t 40 rfl) Tryz.underlying143 rfl rfl) rfl rfl hL fun a s e_ hL=>?_;refine st 42 (zj (o_i (k:=.i64) (by decide)) rfl rfl) rfl rfl hL fun a s e_ hL=>?_;refine en' ?_;show K21 a s.w;refine hK21 _ _ ?_;refine wp_block ?_;refine lpg (fun k a s=>∃(i:Nat) (out:List Unit) (og:Option Nat),i+k=l2.length+1∧Has (fun b=>some g=some b) 61 s0 a s [(2,Pd.fv f1 cs1 e1),(3,Pd.fv f2 cs2 e2),(5,Pd.fv f3 cs3 e3),(7,Pd.ptr EnTk x),(13,Pd.row En.vtw s0.w.heap.size 257 og out),(14,Pd.rep (En.int .i64) 0),(15,Pd.rep EnKs l1),(40,Pd.rep EnKs l2),(41,Pd.rep (En.int .i64) (l2.length:Int)),(42,Pd.rep (En.int .i64) (i:Int)),(999902,Pd.mapc En.tsk kvTsk EnKs g ys2)] ∧
   out.length≤2∧(out≠[]↔0<i)∧i≤l2.length) (l2.length+1)
  ⟨0,[],og,by omega,hL.keep (.cons (t:=2) rfl nE (.cons (t:=3) rfl nE (.cons (t:=5) rfl nE (.cons (t:=7) rfl nE (.cons (t:=13) rfl (fun _ _ h_=>h_) (.cons (t:=14) rfl nE (.cons (t:=15) rfl nE (.cons (t:=40) rfl nE (.cons (t:=41) rfl nE (.cons (t:=42) rfl nE (.cons (t:=999902) rfl (fun _ _ h_=>h_) .nil))))))))))),by simp,by simp,Nat.zero_le _⟩ ?_
 rintro k2 a s ⟨i,out,og,hik,hL,hol,hoi,hile⟩ KM hKM;refine wp_seq_k fun K22 hK22=>?_;refine rg ?_;refine st 43 (zi1 (o_t 42 rfl) (o_t 41 rfl) rfl rfl) rfl rfl hL fun a s e_ hL=>?_;refine en' ?_;show K22 a s.w;refine hK22 _ _ ?_;refine wp_seq_k fun K23 hK23=>?_;refine cnd hL rfl (fun hb3_=>?_) (fun hb3_=>?_)
 case refine_2=>
  refine wp_exit ?_;have hi:l2.length≤i:=by have:=df hb3_;omega
  have hil:i=l2.length:=by omega
  refine J2 a s out og ys2 (hL.keep (.cons (t:=2) rfl nE (.cons (t:=3) rfl nE (.cons (t:=5) rfl nE (.cons (t:=7) rfl nE (.cons (t:=13) rfl (fun _ _ h_=>h_) (.cons (t:=14) rfl nE (.cons (t:=999902) rfl (fun _ _ h_=>h_) .nil)))))))) hys2 hol ?_;rw [hoi,hp1',Bool.true_and,← hp2,hil,List.length_pos_iff]
 have hi:i<l2.length:=by have:=dt hb3_;omega
 have hti:at? l2 (i:Int)=some ():=by rw [zbm];simp [hi]
 refine wp_skip ?_;show K23 a s.w;refine hK23 _ _ ?_;refine wp_seq_k fun K27 hK27=>?_;refine wp_block ?_;refine wp_seq_k fun K28 hK28=>?_;refine rg ?_;refine st 44 (zkb (o_t 40 rfl) (o_t 42 rfl) hti Tryz.underlying143 zhq rfl rfl) rfl rfl hL fun a s e_ hL=>?_;refine st 45 (zw zhq (o_t 44 rfl) rfl rfl) rfl rfl hL fun a s e_ hL=>?_;have lt13:=hL.rlt 13 rfl;have lg0:∀{s:St} {a:Act} {L:Lst},Has (fun b=>some g=some b) 61 s0 a s L→∀k,some g=some k→k<s.w.heap.size:=fun hL k e=>by cases e;exact Nat.lt_of_lt_of_le hgs hL.ent.mv.size
 have ltg:=lg0 hL;refine zz En.vtw (z:=()) 17 hL tyzVw rfl rfl rfl rfl fun a s g17 hg17 hL=>?_;have d17:Dis (some g17) og:=Dis.newg hg17 lt13;have d17g:Dis (some g17) (some g):=Dis.newg hg17 ltg;refine zgs (L':=[(2,Pd.fv f1 cs1 e1),(3,Pd.fv f2 cs2 e2),(5,Pd.fv f3 cs3 e3),(7,Pd.ptr EnTk x),(13,Pd.row En.vtw s0.w.heap.size 257 og out),(14,Pd.rep (En.int .i64) 0),(15,Pd.rep EnKs l1),(40,Pd.rep EnKs l2),(41,Pd.rep (En.int .i64) (l2.length:Int)),(42,Pd.rep (En.int .i64) (i:Int)),(999902,Pd.mapc En.tsk kvTsk EnKs g ys2)]) 17 hL rfl (o_t 45 rfl) zhq rfl rfl rfl
  (.cons (t:=2) rfl nE (.cons (t:=3) rfl nE (.cons (t:=5) rfl nE (.cons (t:=7) rfl nE (.cons (t:=13) rfl d17.symm.ow (.cons (t:=14) rfl nE (.cons (t:=15) rfl nE (.cons (t:=40) rfl nE (.cons (t:=41) rfl nE (.cons (t:=42) rfl nE (.cons (t:=999902) rfl d17g.symm.ow .nil))))))))))) fun s hL=>?_
 refine en' ?_;show K28 a s.w;refine hK28 _ _ ?_;refine wp_seq_k fun K29 hK29=>?_;refine rg ?_;refine st 46 (zj (o_t 15 rfl) rfl rfl) rfl rfl hL fun a s e_ hL=>?_;refine st 47 (zi2 (o_t 46 rfl) Tryz.underlying143 rfl rfl) rfl rfl hL fun a s e_ hL=>?_;refine st 48 (zj (o_i (k:=.i64) (by decide)) rfl rfl) rfl rfl hL fun a s e_ hL=>?_;refine en' ?_;show K29 a s.w;refine hK29 _ _ ?_;refine wp_block ?_;refine lpg (fun k a s=>∃(j:Nat) (out:List Unit) (og:Option Nat),j+k=l1.length+1∧Has (fun b=>some g=some b) 61 s0 a s [(2,Pd.fv f1 cs1 e1),(3,Pd.fv f2 cs2 e2),(5,Pd.fv f3 cs3 e3),(7,Pd.ptr EnTk x),(13,Pd.row En.vtw s0.w.heap.size 257 og out),(14,Pd.rep (En.int .i64) 0),(15,Pd.rep EnKs l1),(17,Pd.box En.vtw s0.w.heap.size g17 ()),(40,Pd.rep EnKs l2),(41,Pd.rep (En.int .i64) (l2.length:Int)),(42,Pd.rep (En.int .i64) (i:Int)),(46,Pd.rep EnKs l1),(47,Pd.rep (En.int .i64) (l1.length:Int)),(48,Pd.rep (En.int .i64) (j:Int)),(999902,Pd.mapc En.tsk kvTsk EnKs g ys2)] ∧
   Dis (some g17) og∧out.length≤2∧(out≠[]↔0<i∨0<j)) (l1.length+1)
  ⟨0,out,og,by omega,hL.keep (.cons (t:=2) rfl nE (.cons (t:=3) rfl nE (.cons (t:=5) rfl nE (.cons (t:=7) rfl nE (.cons (t:=13) rfl (fun _ _ h_=>h_) (.cons (t:=14) rfl nE (.cons (t:=15) rfl nE (.cons (t:=17) rfl (fun _ _ h_=>h_) (.cons (t:=40) rfl nE (.cons (t:=41) rfl nE (.cons (t:=42) rfl nE (.cons (t:=46) rfl nE (.cons (t:=47) rfl nE (.cons (t:=48) rfl nE (.cons (t:=999902) rfl (fun _ _ h_=>h_) .nil))))))))))))))),d17,hol,by rw [hoi];simp⟩ ?_
 rintro k3 a s ⟨j,out,og,hjk,hL,d17,hol,hoj⟩ KN hKN;refine wp_seq_k fun K32 hK32=>?_;refine rg ?_;refine st 49 (zi1 (o_t 48 rfl) (o_t 47 rfl) rfl rfl) rfl rfl hL fun a s e_ hL=>?_;refine en' ?_;show K32 a s.w;refine hK32 _ _ ?_;refine wp_seq_k fun K33 hK33=>?_;refine cnd hL rfl (fun hb4_=>?_) (fun hb4_=>?_)
 case refine_2=>
  refine wp_exit ?_;show K27 a s.w;refine hK27 _ _ ?_;have hj:l1.length≤j:=by have:=df hb4_;omega
  have hl1p:0<l1.length:=List.length_pos_iff.2 hne1;refine rg ?_;refine st 59 (zi6 (o_t 42 rfl) (o_i (k:=.i64) (by decide)) (zi (by omega) (by omega)) rfl rfl) rfl rfl hL fun a s e_ hL=>?_;refine st 42 (zj (o_t 59 rfl) rfl rfl) rfl rfl hL fun a s e_ hL=>?_;refine en' ?_;exact hKM (k2-1) a s (by omega) ⟨i+1,out,og,by omega,hL.keep (.cons (t:=2) rfl nE (.cons (t:=3) rfl nE (.cons (t:=5) rfl nE (.cons (t:=7) rfl nE (.cons (t:=13) rfl (fun _ _ h_=>h_) (.cons (t:=14) rfl nE (.cons (t:=15) rfl nE (.cons (t:=40) rfl nE (.cons (t:=41) rfl nE (.cons (t:=42) rfl nE (.cons (t:=999902) rfl (fun _ _ h_=>h_) .nil))))))))))),hol,⟨fun _=>by omega,fun _=>hoj.2 (.inr (by omega))⟩,by omega⟩
 have hj:j<l1.length:=by have:=dt hb4_;omega
 have htj:at? l1 (j:Int)=some ():=by rw [zbm];simp [hj]
 refine wp_skip ?_;show K33 a s.w;refine hK33 _ _ ?_;refine wp_seq_k fun K37 hK37=>?_;refine wp_block ?_;refine wp_seq_k fun K38 hK38=>?_;refine rg ?_;refine st 50 (zkb (o_t 46 rfl) (o_t 48 rfl) htj Tryz.underlying143 zhq rfl rfl) rfl rfl hL fun a s e_ hL=>?_;refine st 51 (zw zhq (o_t 50 rfl) rfl rfl) rfl rfl hL fun a s e_ hL=>?_;have lt13:=hL.rlt 13 rfl;have lt17:=hL.blt 17 rfl;have ltg:=lg0 hL;refine zz En.vtw (z:=()) 19 hL tyzVw rfl rfl rfl rfl fun a s g19 hg19 hL=>?_;have d19:Dis (some g19) og:=Dis.newg hg19 lt13;have d19g:Dis (some g19) (some g):=Dis.newg hg19 ltg;have d1917:Dis (some g19) (some g17):=Dis.newg hg19 lt17;refine zgs (L':=[(2,Pd.fv f1 cs1 e1),(3,Pd.fv f2 cs2 e2),(5,Pd.fv f3 cs3 e3),(7,Pd.ptr EnTk x),(13,Pd.row En.vtw s0.w.heap.size 257 og out),(14,Pd.rep (En.int .i64) 0),(15,Pd.rep EnKs l1),(17,Pd.box En.vtw s0.w.heap.size g17 ()),(40,Pd.rep EnKs l2),(41,Pd.rep (En.int .i64) (l2.length:Int)),(42,Pd.rep (En.int .i64) (i:Int)),(46,Pd.rep EnKs l1),(47,Pd.rep (En.int .i64) (l1.length:Int)),(48,Pd.rep (En.int .i64) (j:Int)),(999902,Pd.mapc En.tsk kvTsk EnKs g ys2)]) 19 hL rfl (o_t 51 rfl) zhq rfl rfl rfl
  (.cons (t:=2) rfl nE (.cons (t:=3) rfl nE (.cons (t:=5) rfl nE (.cons (t:=7) rfl nE (.cons (t:=13) rfl d19.symm.ow (.cons (t:=14) rfl nE (.cons (t:=15) rfl nE (.cons (t:=17) rfl (Dis.bx d1917.symm) (.cons (t:=40) rfl nE (.cons (t:=41) rfl nE (.cons (t:=42) rfl nE (.cons (t:=46) rfl nE (.cons (t:=47) rfl nE (.cons (t:=48) rfl nE (.cons (t:=999902) rfl d19g.symm.ow .nil))))))))))))))) fun s hL=>?_
 refine en' ?_;show K38 a s.w;refine hK38 _ _ ?_;refine rg ?_;refine st 52 (zj (o_t 13 rfl) rfl rfl) rfl rfl hL fun a s e_ hL=>?_;refine st 53 (zj (o_t 5 rfl) rfl rfl) rfl rfl hL fun a s e_ hL=>?_;refine st 54 (zgo zhq (o_t 19 rfl) rfl rfl) rfl rfl hL fun a s e_ hL=>?_;refine st 55 (zgo zhq (o_t 17 rfl) rfl rfl) rfl rfl hL fun a s e_ hL=>?_;refine st 56 (t_callv (qs:=[Pd.rep En.vtw (),Pd.rep En.vtw ()]) (o_t 53 rfl) h3 (xs:=[.tmp 54,.tmp 55]) (.cons (o_t 54 rfl) (.cons (o_t 55 rfl) .nil)) rfl rfl) rfl rfl hL fun a s e_ hL=>?_;have lt17:=hL.blt 17 rfl;have ltg:=lg0 hL;have dg:=ogs hL (t:=13) rfl;refine zqh (L':=[(2,Pd.fv f1 cs1 e1),(3,Pd.fv f2 cs2 e2),(5,Pd.fv f3 cs3 e3),(7,Pd.ptr EnTk x),(14,Pd.rep (En.int .i64) 0),(15,Pd.rep EnKs l1),(17,Pd.box En.vtw s0.w.heap.size g17 ()),(40,Pd.rep EnKs l2),(41,Pd.rep (En.int .i64) (l2.length:Int)),(42,Pd.rep (En.int .i64) (i:Int)),(46,Pd.rep EnKs l1),(47,Pd.rep (En.int .i64) (l1.length:Int)),(48,Pd.rep (En.int .i64) (j:Int)),(999902,Pd.mapc En.tsk kvTsk EnKs g ys2)]) 57 hL hol (o_t 52 rfl) (o_t 56 rfl) rfl rfl rfl rfl
  (.cons (t:=2) rfl nE (.cons (t:=3) rfl nE (.cons (t:=5) rfl nE (.cons (t:=7) rfl nE (.cons (t:=14) rfl nE (.cons (t:=15) rfl nE (.cons (t:=17) rfl (Dis.bx d17) (.cons (t:=40) rfl nE (.cons (t:=41) rfl nE (.cons (t:=42) rfl nE (.cons (t:=46) rfl nE (.cons (t:=47) rfl nE (.cons (t:=48) rfl nE (.cons (t:=999902) rfl dg.symm.ow .nil)))))))))))))) fun a s og' r hog' hrne hrl hL=>?_
 have d17':Dis (some g17) og':=(Dis.app hog' d17.symm lt17).symm;refine st 13 (zp (o_t 57 rfl) rfl rfl) rfl rfl hL fun a s e_ hL=>?_;refine en' ?_;show K37 a s.w;refine hK37 _ _ ?_;refine rg ?_;refine st 58 (zi6 (o_t 48 rfl) (o_i (k:=.i64) (by decide)) (zi (by omega) (by omega)) rfl rfl) rfl rfl hL fun a s e_ hL=>?_;refine st 48 (zj (o_t 58 rfl) rfl rfl) rfl rfl hL fun a s e_ hL=>?_;refine en' ?_;exact hKN (k3-1) a s (by omega) ⟨j+1,r,og',by omega,hL.keep (.cons (t:=2) rfl nE (.cons (t:=3) rfl nE (.cons (t:=5) rfl nE (.cons (t:=7) rfl nE (.cons (t:=13) rfl (fun _ _ h_=>h_) (.cons (t:=14) rfl nE (.cons (t:=15) rfl nE (.cons (t:=17) rfl (fun _ _ h_=>h_) (.cons (t:=40) rfl nE (.cons (t:=41) rfl nE (.cons (t:=42) rfl nE (.cons (t:=46) rfl nE (.cons (t:=47) rfl nE (.cons (t:=48) rfl nE (.cons (t:=999902) rfl (fun _ _ h_=>h_) .nil))))))))))))))),d17',hrl,⟨fun _=>.inr (by omega),fun _=>hrne⟩⟩
set_option maxRecDepth 100000
theorem many_ok {d:List SNode} {g:Nat} {i:Int} {n:SNode} (hk:n.1=6∨n.1=7):Fn Tryz.prog 169 [Pd.ptr EnRd (rdN d g),Pd.rep EnTk (tkN i n 0 0),Pd.rep En.SNode n] (Rq (Pd.rep EnKs (if n.1=6∨n.2.2.2.1=0 then [()] else []))):=by
 refine zbn Tryz.func169 rfl Tryz.ntmps169 (by rfl) (by simp) fun s0 a hL=>?_;refine wp_seq_k fun K1 hK1=>?_;refine rg ?_;refine st 3 (zgd (o_pt (o_t 0 rfl)) rfl rfl) rfl rfl hL fun a s e_ hL=>?_;refine st 4 (zgd (o_t 1 rfl) rfl rfl) rfl rfl hL fun a s e_ hL=>?_;refine st 5 (zgd (o_t 2 rfl) rfl rfl) rfl rfl hL fun a s e_ hL=>?_;refine st 6 (zp (q:=Pd.any) (fun _ _ _ _ _ _=>trivial) rfl rfl) rfl rfl hL fun a s e_ hL=>?_;refine en' ?_;show K1 a s.w;refine hK1 _ _ ?_;refine wp_seq_k fun K2 hK2=>?_;refine rg ?_;refine st 7 (zp (o_nil (E:=En.vtw) (N:=s0.w.heap.size) (te:=257)) rfl rfl) rfl rfl hL fun a s e_ hL=>?_;refine en' ?_;show K2 a s.w;refine hK2 _ _ ?_;replace hL:=hL.kk (L':=[(3,Pd.ptr (En.pt EnRd) (rdN d g)),(4,Pd.ptr EnTk (tkN i n 0 0)),(5,Pd.ptr En.SNode n),(7,Pd.row En.vtw s0.w.heap.size 257 none [])]);have fin:∀(a:Act) (s:St) (out:List Unit) (og:Option Nat),Has N0 77 s0 a s [(7,Pd.row En.vtw s0.w.heap.size 257 og out)]→out=(if n.1=6∨n.2.2.2.1=0 then [()] else [])→∃s2:St,s2.w=s.w∧Has N0 77 s0 a s2 [(7,Pd.rep EnKs (if n.1=6∨n.2.2.2.1=0 then [()] else []))]:=by
  intro a s out og hL e;subst e;exact hL.freeze 7 rfl .nil
 refine wp_seq_k fun K3 hK3=>?_;have J:∀(a:Act) (s:St) (out:List Unit) (og:Option Nat),Has N0 77 s0 a s [(3,Pd.ptr (En.pt EnRd) (rdN d g)),(4,Pd.ptr EnTk (tkN i n 0 0)),(5,Pd.ptr En.SNode n),(7,Pd.row En.vtw s0.w.heap.size 257 og out)]→out=(if n.1=6∨n.2.2.2.1=0 then [()] else [])→K3 a s.w:=by
  intro a s out og hL he;refine hK3 _ _ ?_;refine wp_seq_k fun K4 hK4=>?_;refine wp_seq_k fun K5 hK5=>?_;refine rg ?_;refine st 33 (zdb (off:=0) (o_t 5 rfl) Tryz.underlying42 rfl (zx (zn _ _)) rfl ty3 rfl rfl) rfl rfl hL fun a s e_ hL=>?_;refine st 34 (zw ty3 (o_t 33 rfl) rfl rfl) rfl rfl hL fun a s e_ hL=>?_;refine st 35 (zgp (o_t 34 rfl) (o_i (k:=.i64) (by decide)) rfl rfl) rfl rfl hL fun a s e_ hL=>?_;refine st 36 (zj (o_t 35 rfl) rfl rfl) rfl rfl hL fun a s e_ hL=>?_;refine st 37 (zfk rfl rfl rfl (fun hc_=>zdb (off:=2) (o_t 4 rfl) Tryz.underlying184 rfl (ze (ze (zx (zn _ _)) rfl) rfl) rfl ty3 rfl rfl)) rfl rfl hL fun a s e_ hL=>?_;refine st 38 (zfk rfl rfl rfl (fun hc_=>zw ty3 (o_w hc_ 37 rfl) rfl rfl)) rfl rfl hL fun a s e_ hL=>?_;refine st 39 (zfk rfl rfl rfl (fun hc_=>zgp (o_w hc_ 38 rfl) (o_i (k:=.i64) (by decide)) rfl rfl)) rfl rfl hL fun a s e_ hL=>?_;refine st 40 (zpm (o_t 36 rfl) (fun hc_=>o_w hc_ 39 rfl) rfl rfl) rfl rfl hL fun a s e_ hL=>?_;refine en' ?_;show K5 a s.w;refine hK5 _ _ ?_;refine cnd hL rfl (fun hb_=>?_) (fun hb_=>?_)
  ·obtain ⟨s2,hw2,hL⟩:=fin a s out og hL.kk he;rw [← hw2];clear hw2;generalize s2=s at *;refine wp_seq_k fun K6 hK6=>?_;refine rg ?_;refine st 41 (zj (o_t 7 rfl) rfl rfl) rfl rfl hL fun a s e_ hL=>?_;refine st 6 (zp (o_t 41 rfl) rfl rfl) rfl rfl hL fun a s e_ hL=>?_;refine en' ?_;show K6 a s.w;refine hK6 _ _ ?_;exact wp_ret (zdr rfl hL rfl)
  refine wp_skip ?_;show K4 a s.w;refine hK4 _ _ ?_;refine wp_seq_k fun K7 hK7=>?_;refine rg ?_;refine st 42 (zdb (off:=0) (o_t 4 rfl) Tryz.underlying184 rfl (zx (zn _ _)) rfl ty3 rfl rfl) rfl rfl hL fun a s e_ hL=>?_;refine st 43 (zw ty3 (o_t 42 rfl) rfl rfl) rfl rfl hL fun a s e_ hL=>?_;refine st 44 (zdb (off:=1) (o_t 4 rfl) Tryz.underlying184 rfl (ze (zx (zn _ _)) rfl) rfl ty3 rfl rfl) rfl rfl hL fun a s e_ hL=>?_;refine st 45 (zw ty3 (o_t 44 rfl) rfl rfl) rfl rfl hL fun a s e_ hL=>?_;refine st 46 (t_subw (o_t 45 rfl) (o_i (k:=.i64) (by decide)) rfl rfl) rfl rfl hL fun a s e_ hL=>?_;refine st 47 (t_max (o_t 46 rfl) (o_i (k:=.i64) (by decide)) rfl rfl) rfl rfl hL fun a s e_ hL=>?_;refine st 48 (zdb (off:=2) (o_t 4 rfl) Tryz.underlying184 rfl (ze (ze (zx (zn _ _)) rfl) rfl) rfl ty3 rfl rfl) rfl rfl hL fun a s e_ hL=>?_;refine st 49 (zw ty3 (o_t 48 rfl) rfl rfl) rfl rfl hL fun a s e_ hL=>?_;refine st 50 (t_subw (o_t 49 rfl) (o_i (k:=.i64) (by decide)) rfl rfl) rfl rfl hL fun a s e_ hL=>?_;refine st 51 (t_max (o_t 50 rfl) (o_i (k:=.i64) (by decide)) rfl rfl) rfl rfl hL fun a s e_ hL=>?_;refine st 52 (zdb (off:=3) (o_t 4 rfl) Tryz.underlying184 rfl (ze (ze (ze (zx (zn _ _)) rfl) rfl) rfl) rfl ty3 rfl rfl) rfl rfl hL fun a s e_ hL=>?_;refine st 53 (zw ty3 (o_t 52 rfl) rfl rfl) rfl rfl hL fun a s e_ hL=>?_;refine st 54 (zdb (off:=4) (o_t 4 rfl) Tryz.underlying184 rfl (ze (ze (ze (ze (zn _ _) rfl) rfl) rfl) rfl) rfl ty3 rfl rfl) rfl rfl hL fun a s e_ hL=>?_;refine st 55 (zw ty3 (o_t 54 rfl) rfl rfl) rfl rfl hL fun a s e_ hL=>?_
  refine st 56 (zbj (x:=((i,max (IntKind.wrap .i64 (n.2.2.2.1-1)) 0,max (IntKind.wrap .i64 (n.2.2.2.2.1-1)) 0,0,0):Int × Int × Int × Int × Int)) (ps:=[(0,.tmp 43),(1,.tmp 47),(2,.tmp 51),(3,.tmp 53),(4,.tmp 55)]) tyzTk rfl sttTk (.cons (i:=0) (o_t 43 rfl) rfl (z7 (zo _ _ _)) (.cons (i:=1) (o_t 47 rfl) rfl (zk (z7 (zo _ _ _)) rfl) (.cons (i:=2) (o_t 51 rfl) rfl (zk (zk (z7 (zo _ _ _)) rfl) rfl) (.cons (i:=3) (o_t 53 rfl) rfl (zk (zk (zk (z7 (zo _ _ _)) rfl) rfl) rfl) (.cons (i:=4) (o_t 55 rfl) rfl (zk (zk (zk (zk (zo _ _ _) rfl) rfl) rfl) rfl) .nil))))) rfl rfl) rfl rfl hL fun a s e_ hL=>?_;have lt7:=hL.rlt 7 rfl;refine zz EnTk (z:=(0,0,0,0,0)) 8 hL tyzTk rfl rfl rfl rfl fun a s g8 hg8 hL=>?_;have d8:Dis (some g8) og:=Dis.newg hg8 lt7;refine zgs (L':=[(3,Pd.ptr (En.pt EnRd) (rdN d g)),(4,Pd.ptr EnTk (tkN i n 0 0)),(5,Pd.ptr En.SNode n),(7,Pd.row En.vtw s0.w.heap.size 257 og out)]) 8 hL rfl (o_t 56 rfl) tyTk rfl rfl rfl (.cons (t:=3) rfl nE (.cons (t:=4) rfl nE (.cons (t:=5) rfl nE (.cons (t:=7) rfl d8.symm.ow .nil)))) fun s hL=>?_;refine en' ?_;show K7 a s.w;refine hK7 _ _ ?_;obtain ⟨s2,hw2,hL⟩:=hL.freezeb (L':=[(3,Pd.ptr (En.pt EnRd) (rdN d g)),(4,Pd.ptr EnTk (tkN i n 0 0)),(5,Pd.ptr En.SNode n),(7,Pd.row En.vtw s0.w.heap.size 257 og out)]) 8 rfl (.cons (t:=3) rfl nE (.cons (t:=4) rfl nE (.cons (t:=5) rfl nE (.cons (t:=7) rfl d8.symm.ow .nil))));rw [← hw2];clear hw2;generalize s2=s at *;refine wp_seq_k fun K8 hK8=>?_;refine rg ?_;refine st 57 (zw zq2 (o_t 3 rfl) rfl rfl) rfl rfl hL fun a s e_ hL=>?_
  refine st 58 (zw tyTk (o_t 4 rfl) rfl rfl) rfl rfl hL fun a s e_ hL=>?_;refine st 59 (zqb (cs:=capF d g i n) (hcs:=zsi d g i n) (xs:=[.tmp 3,.tmp 5,.tmp 4]) (.cons (o_t 3 rfl) (.cons (o_t 5 rfl) (.cons (o_t 4 rfl) .nil))) rfl rfl) rfl rfl hL fun a s e_ hL=>?_;refine st 60 (zqb (cs:=[Pd.ptr EnTk ((i,max (IntKind.wrap .i64 (n.2.2.2.1-1)) 0,max (IntKind.wrap .i64 (n.2.2.2.2.1-1)) 0,0,0):Int × Int × Int × Int × Int),Pd.ptr (En.pt EnRd) (rdN d g)]) (hcs:=zfw zjq (zfw zjq zf9)) (xs:=[.tmp 8,.tmp 3]) (.cons (o_t 8 rfl) (.cons (o_t 3 rfl) .nil)) rfl rfl) rfl rfl hL fun a s e_ hL=>?_;refine st 61 (zdb (off:=3) (o_t 4 rfl) Tryz.underlying184 rfl (ze (ze (ze (zx (zn _ _)) rfl) rfl) rfl) rfl ty3 rfl rfl) rfl rfl hL fun a s e_ hL=>?_;refine st 62 (zw ty3 (o_t 61 rfl) rfl rfl) rfl rfl hL fun a s e_ hL=>?_;refine st (q:=Pd.rep (En.int .i64) 1) 63 (zi6 (a:=0) (b:=1) (o_t 62 rfl) (o_i (k:=.i64) (by decide)) (by decide) rfl rfl) rfl rfl hL fun a s e_ hL=>?_;refine st 64 (zqb (cs:=[Pd.ptr En.SNode n]) (hcs:=zfw zjq zf9) (xs:=[.tmp 5]) (.cons (o_t 5 rfl) .nil) rfl rfl) rfl rfl hL fun a s e_ hL=>?_;refine st 65 (zdl (cross0_ok (rd:=rdN d g) (x:=tkN i n 0 0) rfl) (xs:=[.tmp 57,.tmp 58,.tmp 59,.tmp 60,.tmp 63,.tmp 64]) (.cons (o_tp (o_t 57 rfl)) (.cons (o_t 58 rfl) (.cons (o_t 59 rfl) (.cons (o_t 60 rfl) (.cons (o_t 63 rfl) (.cons (o_t 64 rfl) .nil)))))) rfl rfl) rfl rfl hL fun a s e_ hL=>?_;refine st 9 (zp (o_t 65 rfl) rfl rfl) rfl rfl hL fun a s e_ hL=>?_;refine en' ?_;show K8 a s.w;refine hK8 _ _ ?_
  refine wp_seq_k fun K9 hK9=>?_;refine wp_seq_k fun K10 hK10=>?_;refine rg ?_;refine st 66 (zj (o_t 9 rfl) rfl rfl) rfl rfl hL fun a s e_ hL=>?_;refine st 67 (zi2 (o_t 66 rfl) Tryz.underlying143 rfl rfl) rfl rfl hL fun a s e_ hL=>?_;refine st 68 (zj (o_i (k:=.i64) (by decide)) rfl rfl) rfl rfl hL fun a s e_ hL=>?_;refine en' ?_;show K10 a s.w;refine hK10 _ _ ?_;refine wp_block ?_;refine lpg (fun k a s=>Has N0 77 s0 a s [(7,Pd.row En.vtw s0.w.heap.size 257 og out),(67,Pd.rep (En.int .i64) (([]:List Unit).length:Int)),(68,Pd.rep (En.int .i64) 0)]) 1 hL.kk ?_;intro k a s hL KL hKL;refine wp_seq_k fun K11 hK11=>?_;refine rg ?_;refine st 69 (zi1 (o_t 68 rfl) (o_t 67 rfl) rfl rfl) rfl rfl hL fun a s e_ hL=>?_;refine en' ?_;show K11 a s.w;refine hK11 _ _ ?_;refine wp_seq_k fun K12 hK12=>?_;refine cnd hL rfl (fun hb_=>?_) (fun hb_=>?_)
  ·exfalso;have:=dt hb_;simp at this
  refine wp_exit ?_;show K9 a s.w;refine hK9 _ _ ?_;obtain ⟨s2,hw2,hL⟩:=fin a s out og hL.kk he;rw [← hw2];clear hw2;generalize s2=s at *;refine wp_seq_k fun K13 hK13=>?_;refine rg ?_;refine st 76 (zj (o_t 7 rfl) rfl rfl) rfl rfl hL fun a s e_ hL=>?_;refine st 6 (zp (o_t 76 rfl) rfl rfl) rfl rfl hL fun a s e_ hL=>?_;refine en' ?_;show K13 a s.w;refine hK13 _ _ ?_;exact wp_ret (zdr rfl hL rfl)
 refine wp_seq_k fun K14 hK14=>?_;refine rg ?_;refine st 12 (zdb (off:=3) (o_t 4 rfl) Tryz.underlying184 rfl (ze (ze (ze (zx (zn _ _)) rfl) rfl) rfl) rfl ty3 rfl rfl) rfl rfl hL fun a s e_ hL=>?_;refine st 13 (zw ty3 (o_t 12 rfl) rfl rfl) rfl rfl hL fun a s e_ hL=>?_;refine st 14 (zdb (off:=4) (o_t 4 rfl) Tryz.underlying184 rfl (ze (ze (ze (ze (zn _ _) rfl) rfl) rfl) rfl) rfl ty3 rfl rfl) rfl rfl hL fun a s e_ hL=>?_;refine st 15 (zw ty3 (o_t 14 rfl) rfl rfl) rfl rfl hL fun a s e_ hL=>?_;refine st 16 (zgp (o_t 13 rfl) (o_t 15 rfl) rfl rfl) rfl rfl hL fun a s e_ hL=>?_;refine st 17 (zj (o_t 16 rfl) rfl rfl) rfl rfl hL fun a s e_ hL=>?_;refine st 18 (zfk rfl rfl rfl (fun hc_=>zdb (off:=0) (o_t 5 rfl) Tryz.underlying42 rfl (zx (zn _ _)) rfl ty3 rfl rfl)) rfl rfl hL fun a s e_ hL=>?_;refine st 19 (zfk rfl rfl rfl (fun hc_=>zw ty3 (o_w hc_ 18 rfl) rfl rfl)) rfl rfl hL fun a s e_ hL=>?_;refine st 20 (zfk rfl rfl rfl (fun hc_=>zgp (o_w hc_ 19 rfl) (o_i (k:=.i64) (by decide)) rfl rfl)) rfl rfl hL fun a s e_ hL=>?_;refine st 21 (zfk rfl rfl rfl (fun hc_=>zj (o_w hc_ 20 rfl) rfl rfl)) rfl rfl hL fun a s e_ hL=>?_;refine st 22 (t_g rfl rfl rfl (fun hc_=>zdb (off:=1) (o_t 4 rfl) Tryz.underlying184 rfl (ze (zx (zn _ _)) rfl) rfl ty3 rfl rfl)) rfl rfl hL fun a s e_ hL=>?_;refine st 23 (t_g rfl rfl rfl (fun hc_=>zw ty3 (o_w hc_ 22 rfl) rfl rfl)) rfl rfl hL fun a s e_ hL=>?_;refine st 24 (t_g rfl rfl rfl (fun hc_=>zgp (o_w hc_ 23 rfl) (o_i (k:=.i64) (by decide)) rfl rfl)) rfl rfl hL fun a s e_ hL=>?_
 refine st 25 (zfk rfl rfl rfl (fun hc_=>t_or (o_w hc_ 21 rfl) (fun hc2_=>o_w ⟨hc_,hc2_⟩ 24 rfl) rfl rfl)) rfl rfl hL fun a s e_ hL=>?_;refine st 26 (zpm (o_t 17 rfl) (fun hc_=>o_w hc_ 25 rfl) rfl rfl) rfl rfl hL fun a s e_ hL=>?_;refine en' ?_;show K14 a s.w;refine hK14 _ _ ?_;refine cnd hL rfl (fun hb_=>?_) (fun hb_=>?_)
 case refine_2=>
  refine wp_skip ?_;exact J a s [] none hL.kk (by
   rw [if_neg];simpa [tkN] using hb_)
 refine rg ?_;refine st 27 (zj (o_t 7 rfl) rfl rfl) rfl rfl hL fun a s e_ hL=>?_;refine st 28 (zdb (off:=0) (o_t 5 rfl) Tryz.underlying42 rfl (zx (zn _ _)) rfl ty3 rfl rfl) rfl rfl hL fun a s e_ hL=>?_;refine st 29 (zw ty3 (o_t 28 rfl) rfl rfl) rfl rfl hL fun a s e_ hL=>?_;refine st 30 (zbj (x:=((n.1,0,[],0,[]):SVal)) (ps:=[(0,.tmp 29)]) (tyzVt (E:=En.vtw)) rfl sttVt (.cons (i:=0) (o_t 29 rfl) rfl (z7 (zo _ _ _)) .nil) rfl rfl) rfl rfl hL fun a s e_ hL=>?_;refine st 31 (zn1 (E:=En.vtw) (es:=[()]) (xs:=[.tmp 30]) (.cons (o_vt (o_t 30 rfl)) .nil) Tryz.underlying143 zhq rfl rfl (by decide) rfl rfl) rfl rfl hL fun a s e_ hL=>?_;refine zdx (L':=[(3,Pd.ptr (En.pt EnRd) (rdN d g)),(4,Pd.ptr EnTk (tkN i n 0 0)),(5,Pd.ptr En.SNode n)]) 32 hL (o_t 27 rfl) (o_t 31 rfl) Tryz.underlying143 zhq (by decide) rfl rfl rfl rfl (by repeat (first | exact .nil | refine .cons rfl nE ?_)) fun a s og' hog' hL=>?_;refine st 7 (zp (o_t 32 rfl) rfl rfl) rfl rfl hL fun a s e_ hL=>?_;refine en' ?_;exact J a s [()] og' hL.kk (by
  rw [if_pos];simpa [tkN] using hb_)
set_option maxRecDepth 100000
theorem wrap_frz {k p:Int} {l:List Unit} (hl:l.length≤2):Fn Tryz.prog 167 [Pd.rep (En.int .i64) k,Pd.rep (En.int .i64) p,Pd.rep EnKs l] (Rq (Pd.rep EnKs l)):=(wrap_ok hl).frz
theorem nulF_fuel {d:List SNode} (hd:CntOk d):∀(m:Nat) (i:Int) (k k':Nat),0≤i→i.toNat≤m→i.toNat<k→i.toNat<k'→zjh d k i=zjh d k' i:=by
 intro m
 induction m with
 | zero=>
  intro i k k' h0 hm hk hk';obtain ⟨k,rfl⟩:∃j,k=j+1:=⟨k-1,by omega⟩;obtain ⟨k',rfl⟩:∃j,k'=j+1:=⟨k' - 1,by omega⟩;unfold zjh;cases hn:at? d i with
  | none=>rfl
  | some n=>
   have e4:¬ n.1=4:=fun e=>by have:=hd.two i n hn (.inl e);omega
   have e5:¬ n.1=5:=fun e=>by have:=hd.two i n hn (.inr e);omega
   simp [e4,e5]
 | succ m ih=>
  intro i k k' h0 hm hk hk';obtain ⟨k,rfl⟩:∃j,k=j+1:=⟨k-1,by omega⟩;obtain ⟨k',rfl⟩:∃j,k'=j+1:=⟨k' - 1,by omega⟩;unfold zjh;cases hn:at? d i with
  | none=>rfl
  | some n=>
   by_cases e45:n.1=4∨n.1=5
   ·obtain ⟨⟨a0,a1⟩,b0,b1⟩:=hd.two i n hn e45;simp only;rw [ih n.2.1 k k' a0 (by omega) (by omega) (by omega),ih n.2.2.1 k k' b0 (by omega) (by omega) (by omega)]
   ·have e4:¬ n.1=4:=fun e=>e45 (.inl e);have e5:¬ n.1=5:=fun e=>e45 (.inr e);simp [e4,e5]
theorem at_inC {d:List SNode} {i:Int} {n:SNode} (h:at? d i=some n):0≤i∧i<d.length:=by
 unfold at? at h
 by_cases h0:0≤i
 ·rw [if_pos h0] at h;have:=(List.getElem?_eq_some_iff.1 h).1;omega
 ·rw [if_neg h0] at h;cases h
theorem at_ex {d:List SNode} {i:Int} (h0:0≤i) (h:i<d.length):∃n,at? d i=some n:=by
 unfold at?;rw [if_pos h0];exact ⟨d[i.toNat]'(by omega),by rw [List.getElem?_eq_getElem]⟩
theorem nulF_step {d:List SNode} (hd:CntOk d) {i:Int} {n:SNode} (hn:at? d i=some n):zjh d d.length i=(if n.1=1 then true else if n.1=3 then decide (n.2.2.2.2.2.2=[]) else if n.1=4 then zjh d d.length n.2.1&&zjh d d.length n.2.2.1 else if n.1=5 then zjh d d.length n.2.1||zjh d d.length n.2.2.1 else if n.1=6 then true else if n.1=7 then decide (n.2.2.2.1=0) else false):=by
 obtain ⟨h0,h1⟩:=at_inC hn;rw [nulF_fuel hd i.toNat i d.length (d.length+1) h0 (Nat.le_refl _) (by omega) (by omega)]
 conv=>lhs;unfold zjh
 rw [hn]
theorem znm {d:List SNode} {i:Int} (h:zjh d d.length i=false):zke d i []:=⟨by decide,by rw [h];simp⟩
theorem zsc {d:List SNode} {i:Int} (h:zjh d d.length i=true):zke d i [()]:=⟨by decide,by rw [h];simp⟩
theorem find_stepC {d:List SNode} {g:Nat} {i:Int} {n:SNode} (hd:CntOk d) (hn:at? d i=some n) (hV:∀j m,0≤j→j<i→at? d j=some m→∀xs,zk0 d xs→ValsOk d g j m xs) {xs:List (Tsk × List Unit)} (hxs:zk0 d xs):FindOk d g i n xs:=by
 have hstep:=nulF_step hd hn;have hin:=at_inC hn;refine fc_of Tryz.func125 rfl Tryz.ntmps125 (by rfl) (by simp) fun s0 a hL=>?_;have hgs:g<s0.w.heap.size:=by
  obtain ⟨hX,_⟩:=hL.get 999902 rfl;exact s0.lt g hX
 refine wp_seq_k fun K1 hK1=>?_;refine rg ?_;refine st 2 (zgd (o_pt (o_t 0 rfl)) rfl rfl) rfl rfl hL fun a s e_ hL=>?_;refine st 3 (zgd (o_t 1 rfl) rfl rfl) rfl rfl hL fun a s e_ hL=>?_;refine st 4 (zp (q:=Pd.any) (fun _ _ _ _ _ _=>trivial) rfl rfl) rfl rfl hL fun a s e_ hL=>?_;refine en' ?_;show K1 a s.w;refine hK1 _ _ ?_;refine wp_seq_k fun K2 hK2=>?_;replace hL:=hL.kk (L':=[(2,Pd.ptr (En.pt EnRd) (rdN d g)),(3,Pd.ptr EnTk (tkN i n 0 0)),(999902,Pd.mapc En.tsk kvTsk EnKs g xs)]);obtain ⟨K,hKe,hK0,hL⟩:=hL.mark 999901;replace hL:=hL.kk (L':=[(2,Pd.ptr (En.pt EnRd) (rdN d g)),(3,Pd.ptr EnTk (tkN i n 0 0)),(999901,Pd.ge K),(999902,Pd.mapc En.tsk kvTsk EnKs g xs)]);have hno:∀q∈([Pd.rep (En.pt EnRd) (rdN d g),Pd.ptr EnRd (rdN d g),Pd.ptr En.SDesc d,Pd.ptr (En.slice En.SNode) d,Pd.rep (En.slice En.SNode) d,Pd.ptr (En.int .i64) i,Pd.rep (En.int .i64) i,Pd.ptr En.SNode n,Pd.rep En.SNode n,Pd.rep (En.pt EnRd) (rdN d g),Pd.ptr EnRd (rdN d g),Pd.ptr (En.slice (En.int .u8)) ([]:List Int),Pd.rep (En.slice (En.int .u8)) ([]:List Int),Pd.ptr (En.int .i64) 0,Pd.rep (En.int .i64) 0,Pd.ptr (En.int .i64) 0,Pd.rep (En.int .i64) 0,Pd.rep (En.slice (En.int .u8)) ([]:List Int)]:List Pd),∀b,¬ q.own b:=by
  intro q hq b
  repeat (first | (rcases List.mem_cons.1 hq with rfl | hq;exact fun h=>h) | cases hq)
 refine rs_go zck 19 18 5 _ [Pd.rep (En.pt EnRd) (rdN d g),Pd.ptr EnRd (rdN d g),Pd.ptr En.SDesc d,Pd.ptr (En.slice En.SNode) d,Pd.rep (En.slice En.SNode) d,Pd.ptr (En.int .i64) i,Pd.rep (En.int .i64) i,Pd.ptr En.SNode n,Pd.rep En.SNode n,Pd.rep (En.pt EnRd) (rdN d g),Pd.ptr EnRd (rdN d g),Pd.ptr (En.slice (En.int .u8)) ([]:List Int),Pd.rep (En.slice (En.int .u8)) ([]:List Int),Pd.ptr (En.int .i64) 0,Pd.rep (En.int .i64) 0,Pd.ptr (En.int .i64) 0,Pd.rep (En.int .i64) 0,Pd.rep (En.slice (En.int .u8)) ([]:List Int),Pd.ebox En.SNode s0.w.heap.size K ((0,0,0,0,0,(0#256),([]:Str)):SNode)] (Pd.ebox En.SNode s0.w.heap.size K n) (Nat.le_of_eq hKe) hK0 hL
  (.cons (t:=2) rfl nE (.cons (t:=3) rfl nE (.cons (t:=999901) rfl nE (.cons (t:=999902) rfl (fun b hb h_=>by cases hb;omega) .nil))))
  (by kernel_rfl) (by kernel_rfl) (by kernel_rfl) rfl rfl rfl rfl rfl (by kernel_rfl) rfl ?_ ?_ ?_ ?_
 ·refine zbe.cons (zw zq2 (o_t 2 rfl) rfl rfl) ?_;refine zbe.cons (t_nc (o_tp (o_t 10 rfl)) zff rfl rfl) ?_;refine zbe.cons (zdb (off:=0) (o_t 11 rfl) Tryz.underlying181 rfl (zx (zn _ _)) rfl ty24 rfl rfl) ?_;refine zbe.cons (zdb (off:=0) (o_t 12 rfl) Tryz.underlying24 rfl (zfv (zn _ _)) rfl ty22 rfl rfl) ?_;refine zbe.cons (zw ty22 (o_t 13 rfl) rfl rfl) ?_;refine zbe.cons (zdb (off:=0) (o_t 3 rfl) Tryz.underlying184 rfl (zx (zn _ _)) rfl ty3 rfl rfl) ?_;refine zbe.cons (zw ty3 (o_t 15 rfl) rfl rfl) ?_;refine zbe.cons (zkb (o_t 14 rfl) (o_t 16 rfl) hn Tryz.underlying22 ty42 rfl rfl) ?_;refine zbe.cons (zw ty42 (o_t 17 rfl) rfl rfl) ?_;refine zbe.cons (zw zq2 (o_t 2 rfl) rfl rfl) ?_;refine zbe.cons (t_nc (o_tp (o_t 19 rfl)) zff rfl rfl) ?_;refine zbe.cons (zdb (off:=1) (o_t 20 rfl) Tryz.underlying181 rfl (ze (zx (zn _ _)) rfl) rfl tyW rfl rfl) ?_;refine zbe.cons (zw tyW (o_t 21 rfl) rfl rfl) ?_;refine zbe.cons (zdb (off:=3) (o_t 3 rfl) Tryz.underlying184 rfl (ze (ze (ze (zx (zn _ _)) rfl) rfl) rfl) rfl ty3 rfl rfl) ?_;refine zbe.cons (zw ty3 (o_t 23 rfl) rfl rfl) ?_;refine zbe.cons (zdb (off:=4) (o_t 3 rfl) Tryz.underlying184 rfl (ze (ze (ze (ze (zn _ _) rfl) rfl) rfl) rfl) rfl ty3 rfl rfl) ?_;refine zbe.cons (zw ty3 (o_t 25 rfl) rfl rfl) ?_;refine zbe.cons (t_part (l:=0) (i:=0) (o_t 22 rfl) (o_t 24 rfl) (o_t 26 rfl) ⟨by decide,by decide,by decide⟩ Tryz.underlying29 ty5 rfl rfl) ?_;refine zbe.cons (t_allocx En.SNode (z:=((0,0,0,0,0,(0#256),([]:Str)):SNode)) (m:=999901) rfl hK0 zko rfl rfl) ?_
  exact zbe.nil
 ·intro j q hj hjc hq b hb _;have hq':([Pd.rep (En.pt EnRd) (rdN d g),Pd.ptr EnRd (rdN d g),Pd.ptr En.SDesc d,Pd.ptr (En.slice En.SNode) d,Pd.rep (En.slice En.SNode) d,Pd.ptr (En.int .i64) i,Pd.rep (En.int .i64) i,Pd.ptr En.SNode n,Pd.rep En.SNode n,Pd.rep (En.pt EnRd) (rdN d g),Pd.ptr EnRd (rdN d g),Pd.ptr (En.slice (En.int .u8)) ([]:List Int),Pd.rep (En.slice (En.int .u8)) ([]:List Int),Pd.ptr (En.int .i64) 0,Pd.rep (En.int .i64) 0,Pd.ptr (En.int .i64) 0,Pd.rep (En.int .i64) 0,Pd.rep (En.slice (En.int .u8)) ([]:List Int)]:List Pd)[j]?=some q:=by
   have h18:j<18:=by omega
   exact (List.getElem?_append_left (l₁:=[Pd.rep (En.pt EnRd) (rdN d g),Pd.ptr EnRd (rdN d g),Pd.ptr En.SDesc d,Pd.ptr (En.slice En.SNode) d,Pd.rep (En.slice En.SNode) d,Pd.ptr (En.int .i64) i,Pd.rep (En.int .i64) i,Pd.ptr En.SNode n,Pd.rep En.SNode n,Pd.rep (En.pt EnRd) (rdN d g),Pd.ptr EnRd (rdN d g),Pd.ptr (En.slice (En.int .u8)) ([]:List Int),Pd.rep (En.slice (En.int .u8)) ([]:List Int),Pd.ptr (En.int .i64) 0,Pd.rep (En.int .i64) 0,Pd.ptr (En.int .i64) 0,Pd.rep (En.int .i64) 0,Pd.rep (En.slice (En.int .u8)) ([]:List Int)]) (l₂:=[Pd.ebox En.SNode s0.w.heap.size K ((0,0,0,0,0,(0#256),([]:Str)):SNode)]) h18).symm.trans hq
  exact hno q (List.mem_of_getElem? hq') b hb
 ·intro a s' hL' k kk;exact se_box (ops:=#[]) (E:=En.SNode) (z:=((0,0,0,0,0,(0#256),([]:Str)):SNode)) rfl (o_t 18 rfl) ty42 rfl a s' hL' k kk rfl
 intro a s hL;refine st 6 (zp (o_t 27 rfl) rfl rfl) rfl rfl hL fun a s e_ hL=>?_;obtain ⟨g5,hg5,hL⟩:=hL.openb 5 rfl;have d5:Dis (some g5) (some g):=Dis.newg hg5 fun k e=>by cases e;omega
 obtain ⟨s2,hw2,hL⟩:=hL.freezeb (L':=[(2,Pd.ptr (En.pt EnRd) (rdN d g)),(3,Pd.ptr EnTk (tkN i n 0 0)),(6,Pd.rep (En.slice (En.int .u8)) ([]:List Int)),(999902,Pd.mapc En.tsk kvTsk EnKs g xs)]) 5 rfl (.cons (t:=2) rfl nE (.cons (t:=3) rfl nE (.cons (t:=6) rfl nE (.cons (t:=999902) rfl d5.symm.ow .nil))));rw [← hw2];clear hw2;generalize s2=s at *;refine en' ?_;show K2 a s.w;refine hK2 _ _ ?_;replace hL:=hL.kk (L':=[(2,Pd.ptr (En.pt EnRd) (rdN d g)),(3,Pd.ptr EnTk (tkN i n 0 0)),(5,Pd.ptr En.SNode n),(6,Pd.rep (En.slice (En.int .u8)) ([]:List Int)),(999902,Pd.mapc En.tsk kvTsk EnKs g xs)]);refine wp_seq_k fun K3 hK3=>?_;have fall:∀(a:Act) (s:St) (ys:List (Tsk × List Unit)),Has (fun b=>some g=some b) 139 s0 a s [(999902,Pd.mapc En.tsk kvTsk EnKs g ys)]→zk0 d ys→zjh d d.length i=false→K3 a s.w:=by
  intro a s ys hL hys hf;refine hK3 _ _ ?_;refine wp_seq_k fun K4 hK4=>?_;refine rg ?_;refine st 4 (zp (o_nilr (E:=En.vtw)) rfl rfl) rfl rfl hL fun a s e_ hL=>?_;refine en' ?_;show K4 a s.w;refine hK4 _ _ ?_;exact wp_ret (retc ([],ys) ⟨znm hf,hys⟩ rfl hL rfl rfl)
 refine wp_seq_k fun K5 hK5=>?_;refine rg ?_;refine st 28 (zdb (off:=0) (o_t 5 rfl) Tryz.underlying42 rfl (zx (zn _ _)) rfl ty3 rfl rfl) rfl rfl hL fun a s e_ hL=>?_;refine st 29 (zw ty3 (o_t 28 rfl) rfl rfl) rfl rfl hL fun a s e_ hL=>?_;refine en' ?_;show K5 a s.w;refine hK5 _ _ ?_;replace hL:=hL.kk (L':=[(29,Pd.rep (En.int .i64) n.1),(2,Pd.ptr (En.pt EnRd) (rdN d g)),(3,Pd.ptr EnTk (tkN i n 0 0)),(5,Pd.ptr En.SNode n),(6,Pd.rep (En.slice (En.int .u8)) ([]:List Int)),(999902,Pd.mapc En.tsk kvTsk EnKs g xs)]);refine wp_block ?_;refine wp_seq_k fun K6 hK6=>?_;refine rg ?_;refine st 31 (zgp (o_t 29 rfl) (o_i (k:=.i64) (by decide)) rfl rfl) rfl rfl hL fun a s e_ hL=>?_;refine st 30 (zp (o_t 31 rfl) rfl rfl) rfl rfl hL fun a s e_ hL=>?_;refine en' ?_;show K6 a s.w;refine hK6 _ _ ?_;refine cnd hL rfl (fun hb1_=>?_) (fun hb1_=>?_)
 ·have hk:n.1=1:=by simpa using hb1_
  have hnul:zjh d d.length i=true:=by rw [hstep,if_pos hk]
  refine wp_seq_k fun K7 hK7=>?_;refine rg ?_;refine st 32 (zj (o_t 6 rfl) rfl rfl) rfl rfl hL fun a s e_ hL=>?_;refine st 33 (zi2 (o_t 32 rfl) Tryz.underlying29 rfl rfl) rfl rfl hL fun a s e_ hL=>?_;refine st 34 (zgp (o_t 33 rfl) (o_i (k:=.i64) (by decide)) rfl rfl) rfl rfl hL fun a s e_ hL=>?_;refine en' ?_;show K7 a s.w;refine hK7 _ _ ?_;refine cnd hL rfl (fun hb_=>?_) (fun hb_=>by simp at hb_);refine wp_seq_k fun K8 hK8=>?_;refine rg ?_;refine st 35 (zdb (off:=0) (o_t 5 rfl) Tryz.underlying42 rfl (zx (zn _ _)) rfl ty3 rfl rfl) rfl rfl hL fun a s e_ hL=>?_;refine st 36 (zw ty3 (o_t 35 rfl) rfl rfl) rfl rfl hL fun a s e_ hL=>?_;refine st 37 (zbj (x:=((n.1,0,[],0,[]):SVal)) (ps:=[(0,.tmp 36)]) (tyzVt (E:=En.vtw)) rfl sttVt (.cons (i:=0) (o_t 36 rfl) rfl (z7 (zo _ _ _)) .nil) rfl rfl) rfl rfl hL fun a s e_ hL=>?_;refine st 38 (zn1 (E:=En.vtw) (es:=[()]) (xs:=[.tmp 37]) (.cons (o_vt (o_t 37 rfl)) .nil) Tryz.underlying143 zhq rfl rfl (by decide) rfl rfl) rfl rfl hL fun a s e_ hL=>?_;refine st 4 (zp (o_t 38 rfl) rfl rfl) rfl rfl hL fun a s e_ hL=>?_;refine en' ?_;show K8 a s.w;refine hK8 _ _ ?_;exact wp_ret (retc ([()],xs) ⟨zsc hnul,hxs⟩ rfl hL rfl rfl)
 have hk1:¬ n.1=1:=by simpa using hb1_
 refine wp_seq_k fun K9 hK9=>?_;refine rg ?_;refine st 40 (zgp (o_t 29 rfl) (o_i (k:=.i64) (by decide)) rfl rfl) rfl rfl hL fun a s e_ hL=>?_;refine st 39 (zp (o_t 40 rfl) rfl rfl) rfl rfl hL fun a s e_ hL=>?_;refine en' ?_;show K9 a s.w;refine hK9 _ _ ?_;refine cnd hL rfl (fun hb2_=>?_) (fun hb2_=>?_)
 ·have hk:n.1=2:=by simpa using hb2_
  have hnul:zjh d d.length i=false:=by rw [hstep];simp [hk]
  refine wp_seq_k fun K10 hK10=>?_;replace hL:=hL.kk (L':=[(2,Pd.ptr (En.pt EnRd) (rdN d g)),(3,Pd.ptr EnTk (tkN i n 0 0)),(5,Pd.ptr En.SNode n),(6,Pd.rep (En.slice (En.int .u8)) ([]:List Int)),(999902,Pd.mapc En.tsk kvTsk EnKs g xs)]);refine rda zck 11 [Pd.rep (En.slice (En.int .u8)) ([]:List Int),Pd.rep (En.int .i64) (([]:List Int).length:Int),Pd.rep En.bool ((([]:List Int).length:Int)==1),Pd.rep En.bool ((([]:List Int).length:Int)==1),Pd.when (((([]:List Int).length:Int)==1)=true) Pd.any,Pd.when (((([]:List Int).length:Int)==1)=true) Pd.any,Pd.when (((([]:List Int).length:Int)==1)=true) Pd.any,Pd.when (((([]:List Int).length:Int)==1)=true) Pd.any,Pd.when (((([]:List Int).length:Int)==1)=true) Pd.any,Pd.when (((([]:List Int).length:Int)==1)=true) Pd.any,Pd.rep En.bool (((([]:List Int).length:Int)==1)&&false)] hL (by kernel_rfl) rfl rfl ?_ ?_
  ·refine zbe.cons (zj (o_t 6 rfl) rfl rfl) ?_;refine zbe.cons (zi2 (o_t 41 rfl) Tryz.underlying29 rfl rfl) ?_;refine zbe.cons (zgp (o_t 42 rfl) (o_i (k:=.i64) (by decide)) rfl rfl) ?_;refine zbe.cons (zj (o_t 43 rfl) rfl rfl) ?_;refine zbe.cons (zfk (q:=Pd.any) rfl rfl rfl (fun hc_=>by simp at hc_)) ?_;refine zbe.cons (zfk (q:=Pd.any) rfl rfl rfl (fun hc_=>by simp at hc_)) ?_;refine zbe.cons (zfk (q:=Pd.any) rfl rfl rfl (fun hc_=>by simp at hc_)) ?_;refine zbe.cons (zfk (q:=Pd.any) rfl rfl rfl (fun hc_=>by simp at hc_)) ?_;refine zbe.cons (zfk (q:=Pd.any) rfl rfl rfl (fun hc_=>by simp at hc_)) ?_;refine zbe.cons (zfk (q:=Pd.any) rfl rfl rfl (fun hc_=>by simp at hc_)) ?_;refine zbe.cons (zpm (o_t 44 rfl) (fun hc_=>by simp at hc_) rfl rfl) ?_;exact zbe.nil
  intro a s e_ hL;refine en' ?_;show K10 a s.w;refine hK10 _ _ ?_;refine cnd hL rfl (fun hb_=>by simp at hb_) (fun hb_=>?_);refine wp_skip ?_;exact fall a s xs hL.kk hxs hnul
 have hk2:¬ n.1=2:=by simpa using hb2_
 refine wp_seq_k fun K11 hK11=>?_;refine rg ?_;refine st 60 (zgp (o_t 29 rfl) (o_i (k:=.i64) (by decide)) rfl rfl) rfl rfl hL fun a s e_ hL=>?_;refine st 59 (zp (o_t 60 rfl) rfl rfl) rfl rfl hL fun a s e_ hL=>?_;refine en' ?_;show K11 a s.w;refine hK11 _ _ ?_;refine cnd hL rfl (fun hb3_=>?_) (fun hb3_=>?_)
 ·have hk:n.1=3:=by simpa using hb3_
  have hnul:zjh d d.length i=decide (n.2.2.2.2.2.2=[]):=by rw [hstep];simp [hk]
  refine wp_seq_k fun K12 hK12=>?_;refine rg ?_;refine st 61 (zj (o_t 6 rfl) rfl rfl) rfl rfl hL fun a s e_ hL=>?_;refine st 62 (t_bstr (o_t 61 rfl) Tryz.underlying29 Tryz.underlying5 Tryz.underlying9 rfl rfl) rfl rfl hL fun a s e_ hL=>?_;refine st 63 (zdb (off:=9) (o_t 5 rfl) Tryz.underlying42 rfl (ze (ze (ze (ze (ze (ze (zn _ _) rfl) rfl) rfl) rfl) rfl) rfl) rfl ty9 rfl rfl) rfl rfl hL fun a s e_ hL=>?_;refine st 64 (zw ty9 (o_t 63 rfl) rfl rfl) rfl rfl hL fun a s e_ hL=>?_;refine st 65 (t_eqv eqv_str (o_t 62 rfl) (o_t 64 rfl) rfl rfl) rfl rfl hL fun a s e_ hL=>?_;refine en' ?_;show K12 a s.w;refine hK12 _ _ ?_;have hsb:strB ([]:List Int)=[]:=rfl;refine cnd hL rfl (fun hb_=>?_) (fun hb_=>?_)
  ·have he:n.2.2.2.2.2.2=[]:=by rw [hsb] at hb_;exact (eq_of_beq hb_).symm
   refine wp_seq_k fun K13 hK13=>?_;refine rg ?_;refine st 66 (zdb (off:=0) (o_t 5 rfl) Tryz.underlying42 rfl (zx (zn _ _)) rfl ty3 rfl rfl) rfl rfl hL fun a s e_ hL=>?_;refine st 67 (zw ty3 (o_t 66 rfl) rfl rfl) rfl rfl hL fun a s e_ hL=>?_;refine st 68 (zdb (off:=9) (o_t 5 rfl) Tryz.underlying42 rfl (ze (ze (ze (ze (ze (ze (zn _ _) rfl) rfl) rfl) rfl) rfl) rfl) rfl ty9 rfl rfl) rfl rfl hL fun a s e_ hL=>?_;refine st 69 (zw ty9 (o_t 68 rfl) rfl rfl) rfl rfl hL fun a s e_ hL=>?_;refine st 70 (zbj (x:=((n.1,0,n.2.2.2.2.2.2,0,[]):SVal)) (ps:=[(0,.tmp 67),(2,.tmp 69)]) (tyzVt (E:=En.vtw)) rfl sttVt (.cons (i:=0) (o_t 67 rfl) rfl (z7 (zo _ _ _)) (.cons (i:=2) (o_t 69 rfl) rfl (zk (zk (z7 (zo _ _ _)) rfl) rfl) .nil)) rfl rfl) rfl rfl hL fun a s e_ hL=>?_;refine st 71 (zn1 (E:=En.vtw) (es:=[()]) (xs:=[.tmp 70]) (.cons (o_vt (o_t 70 rfl)) .nil) Tryz.underlying143 zhq rfl rfl (by decide) rfl rfl) rfl rfl hL fun a s e_ hL=>?_;refine st 4 (zp (o_t 71 rfl) rfl rfl) rfl rfl hL fun a s e_ hL=>?_;refine en' ?_;show K13 a s.w;refine hK13 _ _ ?_;exact wp_ret (retc ([()],xs) ⟨zsc (by rw [hnul,he];rfl),hxs⟩ rfl hL rfl rfl)
  have he:¬ n.2.2.2.2.2.2=[]:=fun e=>by rw [hsb,e] at hb_;cases hb_
  refine wp_skip ?_;exact fall a s xs hL.kk hxs (by rw [hnul];exact decide_eq_false he)
 have hk3:¬ n.1=3:=by simpa using hb3_
 refine wp_seq_k fun K14 hK14=>?_;refine rg ?_;refine st 73 (zgp (o_t 29 rfl) (o_i (k:=.i64) (by decide)) rfl rfl) rfl rfl hL fun a s e_ hL=>?_;refine st 72 (zp (o_t 73 rfl) rfl rfl) rfl rfl hL fun a s e_ hL=>?_;refine en' ?_;show K14 a s.w;refine hK14 _ _ ?_;refine cnd hL rfl (fun hb4_=>?_) (fun hb4_=>?_)
 ·have hk:n.1=4:=by simpa using hb4_
  obtain ⟨⟨a0,a1⟩,b0,b1⟩:=hd.two i n hn (.inl hk);obtain ⟨mA,hmA⟩:=at_ex a0 (by omega:n.2.1<d.length);obtain ⟨mB,hmB⟩:=at_ex b0 (by omega:n.2.2.1<d.length);have hnul:zjh d d.length i=(zjh d d.length n.2.1&&zjh d d.length n.2.2.1):=by rw [hstep];simp [hk]
  refine wp_seq_k fun K15 hK15=>?_;refine rg ?_;refine st 74 (zw zq2 (o_t 2 rfl) rfl rfl) rfl rfl hL fun a s e_ hL=>?_;refine st 75 (zw tyTk (o_t 3 rfl) rfl rfl) rfl rfl hL fun a s e_ hL=>?_;refine st 76 (zqb (cs:=capF d g i n) (hcs:=zsi d g i n) (xs:=[.tmp 2,.tmp 5,.tmp 3]) (.cons (o_t 2 rfl) (.cons (o_t 5 rfl) (.cons (o_t 3 rfl) .nil))) rfl rfl) rfl rfl hL fun a s e_ hL=>?_;refine st 77 (zqb (cs:=capF d g i n) (hcs:=zsi d g i n) (xs:=[.tmp 2,.tmp 5,.tmp 3]) (.cons (o_t 2 rfl) (.cons (o_t 5 rfl) (.cons (o_t 3 rfl) .nil))) rfl rfl) rfl rfl hL fun a s e_ hL=>?_;refine st 78 (zdb (off:=3) (o_t 3 rfl) Tryz.underlying184 rfl (ze (ze (ze (zx (zn _ _)) rfl) rfl) rfl) rfl ty3 rfl rfl) rfl rfl hL fun a s e_ hL=>?_;refine st 79 (zw ty3 (o_t 78 rfl) rfl rfl) rfl rfl hL fun a s e_ hL=>?_;refine st 80 (zqb (cs:=[Pd.ptr En.SNode n]) (hcs:=zfw zjq zf9) (xs:=[.tmp 5]) (.cons (o_t 5 rfl) .nil) rfl rfl) rfl rfl hL fun a s e_ hL=>?_;refine zib (L':=[]) 81 999902 hL (cross_ok (d:=d) (g:=g) (x:=tkN i n 0 0) (rd:=rdN d g) rfl (fun ys hys=>find1_ok (i:=i) (n:=n) rfl hmA (fun zs hzs=>hV _ mA a0 a1 hmA zs hzs) hys) (fun ys hys=>find2_ok (i:=i) (n:=n) rfl hmB (fun zs hzs=>hV _ mB b0 b1 hmB zs hzs) hys) find3_ok hxs) rfl (.inl rfl) (zs:=[.tmp 74,.tmp 75,.tmp 76,.tmp 77,.tmp 79,.tmp 80]) (.cons (o_tp (o_t 74 rfl)) (.cons (o_t 75 rfl) (.cons (o_t 76 rfl) (.cons (o_t 77 rfl) (.cons (o_t 79 rfl) (.cons (o_t 80 rfl) .nil)))))) rfl rfl rfl rfl .nil fun a s im him hL=>?_;obtain ⟨l,ys⟩:=im;obtain ⟨⟨hl,hp⟩,hys⟩:=him
  simp only at hl hp hys;refine st 4 (zp (o_t 81 rfl) rfl rfl) rfl rfl hL fun a s e_ hL=>?_;refine en' ?_;show K15 a s.w;refine hK15 _ _ ?_;exact wp_ret (retc (l,ys) ⟨⟨hl,by rw [hnul];exact hp⟩,hys⟩ rfl hL rfl rfl)
 have hk4:¬ n.1=4:=by simpa using hb4_
 refine wp_seq_k fun K16 hK16=>?_;refine rg ?_;refine st 83 (zgp (o_t 29 rfl) (o_i (k:=.i64) (by decide)) rfl rfl) rfl rfl hL fun a s e_ hL=>?_;refine st 82 (zp (o_t 83 rfl) rfl rfl) rfl rfl hL fun a s e_ hL=>?_;refine en' ?_;show K16 a s.w;refine hK16 _ _ ?_;refine cnd hL rfl (fun hb5_=>?_) (fun hb5_=>?_)
 ·have hk:n.1=5:=by simpa using hb5_
  obtain ⟨⟨a0,a1⟩,b0,b1⟩:=hd.two i n hn (.inr hk);obtain ⟨mA,hmA⟩:=at_ex a0 (by omega:n.2.1<d.length);obtain ⟨mB,hmB⟩:=at_ex b0 (by omega:n.2.2.1<d.length);have hnul:zjh d d.length i=(zjh d d.length n.2.1||zjh d d.length n.2.2.1):=by rw [hstep];simp [hk]
  refine wp_seq_k fun Ka hKa=>?_;replace hL:=hL.kk (L':=[(2,Pd.ptr (En.pt EnRd) (rdN d g)),(3,Pd.ptr EnTk (tkN i n 0 0)),(5,Pd.ptr En.SNode n),(6,Pd.rep (En.slice (En.int .u8)) ([]:List Int)),(999902,Pd.mapc En.tsk kvTsk EnKs g xs)]);refine rk_go zck 11 95 12 _ [Pd.ptr (En.int .i64) n.1,Pd.rep (En.int .i64) n.1,Pd.rep (En.pt EnRd) (rdN d g),Pd.rep (En.pt EnRd) (rdN d g),Pd.ptr (En.int .i64) n.2.1,Pd.rep (En.int .i64) n.2.1,Pd.ptr (En.int .i64) 0,Pd.rep (En.int .i64) 0,Pd.ptr (En.int .i64) 0,Pd.rep (En.int .i64) 0,Pd.rep EnTk (tkN n.2.1 mA 0 0),Pd.any] (fun im:List Unit × List (Tsk × List Unit)=>[Pd.ptr (En.int .i64) n.1,Pd.rep (En.int .i64) n.1,Pd.rep (En.pt EnRd) (rdN d g),Pd.rep (En.pt EnRd) (rdN d g),Pd.ptr (En.int .i64) n.2.1,Pd.rep (En.int .i64) n.2.1,Pd.ptr (En.int .i64) 0,Pd.rep (En.int .i64) 0,Pd.ptr (En.int .i64) 0,Pd.rep (En.int .i64) 0,Pd.rep EnTk (tkN n.2.1 mA 0 0),Pd.rep EnKs im.1]) (fun im=>[(999902,Pd.mapc En.tsk kvTsk EnKs g im.2),(2,Pd.ptr (En.pt EnRd) (rdN d g)),(3,Pd.ptr EnTk (tkN i n 0 0)),(5,Pd.ptr En.SNode n),(6,Pd.rep (En.slice (En.int .u8)) ([]:List Int))]) (fun im=>zke d n.2.1 im.1∧zk0 d im.2) (fun r=>∀b,r.own b→¬ some g=some b) hL (by kernel_rfl) (fun _=>by kernel_rfl) (fun _=>rfl) rfl rfl (by kernel_rfl) rfl (fun _=>rfl) rfl rfl (fun im=>?_) ?_ (fun im him=>?_) ?_ (fun im him a s hL=>?_)
  ·exact ⟨fun _ _=>rfl,fun _ _=>rfl,fun _ _=>rfl,fun _ _=>rfl,fun _ _=>rfl,fun _ _=>rfl,fun _ _=>rfl,fun _ _=>rfl,fun _ _=>rfl,fun _ _=>rfl,fun _ _=>rfl,fun h _=>absurd rfl h,trivial⟩
  ·refine zg0.t (zdb (off:=0) (o_t 5 rfl) Tryz.underlying42 rfl (zx (zn _ _)) rfl ty3 rfl rfl) nE ?_;refine zg0.t (zw ty3 (o_t 84 rfl) rfl rfl) nE ?_;refine zg0.t (zw zq2 (o_t 2 rfl) rfl rfl) nE ?_;refine zg0.t (zw zq2 (o_t 2 rfl) rfl rfl) nE ?_;refine zg0.t (zdb (off:=1) (o_t 5 rfl) Tryz.underlying42 rfl (ze (zx (zn _ _)) rfl) rfl ty3 rfl rfl) nE ?_;refine zg0.t (zw ty3 (o_t 88 rfl) rfl rfl) nE ?_;refine zg0.t (zdb (off:=3) (o_t 3 rfl) Tryz.underlying184 rfl (ze (ze (ze (zx (zn _ _)) rfl) rfl) rfl) rfl ty3 rfl rfl) nE ?_;refine zg0.t (zw ty3 (o_t 90 rfl) rfl rfl) nE ?_;refine zg0.t (zdb (off:=4) (o_t 3 rfl) Tryz.underlying184 rfl (ze (ze (ze (ze (zn _ _) rfl) rfl) rfl) rfl) rfl ty3 rfl rfl) nE ?_;refine zg0.t (zw ty3 (o_t 92 rfl) rfl rfl) nE ?_;refine zg0.t (zdl (zh7 hmA) (xs:=[.tmp 87,.tmp 89,.tmp 91,.tmp 93]) (.cons (o_tp (o_t 87 rfl)) (.cons (o_t 89 rfl) (.cons (o_t 91 rfl) (.cons (o_t 93 rfl) .nil)))) rfl rfl) nE ?_;refine zg0.c rfl ?_;exact zg0.nil
  ·refine zb9.cons (zdb (off:=0) (o_t 5 rfl) Tryz.underlying42 rfl (zx (zn _ _)) rfl ty3 rfl rfl) ?_;refine zb9.cons (zw ty3 (o_t 84 rfl) rfl rfl) ?_;refine zb9.cons (zw zq2 (o_t 2 rfl) rfl rfl) ?_;refine zb9.cons (zw zq2 (o_t 2 rfl) rfl rfl) ?_;refine zb9.cons (zdb (off:=1) (o_t 5 rfl) Tryz.underlying42 rfl (ze (zx (zn _ _)) rfl) rfl ty3 rfl rfl) ?_;refine zb9.cons (zw ty3 (o_t 88 rfl) rfl rfl) ?_;refine zb9.cons (zdb (off:=3) (o_t 3 rfl) Tryz.underlying184 rfl (ze (ze (ze (zx (zn _ _)) rfl) rfl) rfl) rfl ty3 rfl rfl) ?_;refine zb9.cons (zw ty3 (o_t 90 rfl) rfl rfl) ?_;refine zb9.cons (zdb (off:=4) (o_t 3 rfl) Tryz.underlying184 rfl (ze (ze (ze (ze (zn _ _) rfl) rfl) rfl) rfl) rfl ty3 rfl rfl) ?_;refine zb9.cons (zw ty3 (o_t 92 rfl) rfl rfl) ?_;refine zb9.cons (zdl (zh7 hmA) (xs:=[.tmp 87,.tmp 89,.tmp 91,.tmp 93]) (.cons (o_tp (o_t 87 rfl)) (.cons (o_t 89 rfl) (.cons (o_t 91 rfl) (.cons (o_t 93 rfl) .nil)))) rfl rfl) ?_;refine zb9.skip rfl ?_;exact zb9.nil
  ·intro a s' hL' KK hKK;exact callc_k (L':=[(2,Pd.ptr (En.pt EnRd) (rdN d g)),(3,Pd.ptr EnTk (tkN i n 0 0)),(5,Pd.ptr En.SNode n),(6,Pd.rep (En.slice (En.int .u8)) ([]:List Int))]) 95 999902 hL' (hV _ mA a0 a1 hmA xs hxs) rfl (.inl rfl) (zs:=[.tmp 86,.tmp 94]) (.cons (o_tp (o_t 86 rfl)) (.cons (o_t 94 rfl) .nil)) rfl rfl rfl (.cons (t:=2) rfl nE (.cons (t:=3) rfl nE (.cons (t:=5) rfl nE (.cons (t:=6) rfl nE .nil))))
    fun v s'' im him hq hL2 hpres=>hKK v s'' im _ him rfl hq hL2 hpres
  obtain ⟨lA,ysA⟩:=im;obtain ⟨hgA,hysA⟩:=him;replace hgA:zke d n.2.1 lA:=hgA;replace hysA:zk0 d ysA:=hysA;refine zcs (xs:=[.tmp 85,.const (.int .i64 0),.tmp 95]) 96 hL (wrap_ok hgA.1) (.cons (o_t 85 rfl) (.cons (o_i (k:=.i64) (by decide)) (.cons (o_t 95 rfl) .nil))) rfl rfl rfl rfl fun a s og hog hL=>?_;refine st 7 (zp (o_t 96 rfl) rfl rfl) rfl rfl hL fun a s e_ hL=>?_;refine en' ?_;show Ka a s.w;refine hKa _ _ ?_;have ogs:∀{a:Act} {s:St} {L:Lst} {t:Nat} {og:Option Nat} {out:List Unit},Has (fun b=>some g=some b) 139 s0 a s L→lk L t=some (Pd.row En.vtw s0.w.heap.size 257 og out)→Dis og (some g):=fun hL hl=>own_g hgs fun b hb=>(ziw (hL.get _ hl) b hb).1;have dg:=ogs hL (t:=7) rfl;replace hL:=hL.kk (L':=[(2,Pd.ptr (En.pt EnRd) (rdN d g)),(3,Pd.ptr EnTk (tkN i n 0 0)),(5,Pd.ptr En.SNode n),(6,Pd.rep (En.slice (En.int .u8)) ([]:List Int)),(7,Pd.row En.vtw s0.w.heap.size 257 og lA),(999902,Pd.mapc En.tsk kvTsk EnKs g ysA)]);refine wp_seq_k fun Kb hKb=>?_;refine wp_seq_k fun Kc hKc=>?_;refine rk_go zck 11 108 15 _ [Pd.ptr (En.int .i64) n.1,Pd.rep (En.int .i64) n.1,Pd.rep (En.pt EnRd) (rdN d g),Pd.rep (En.pt EnRd) (rdN d g),Pd.ptr (En.int .i64) n.2.2.1,Pd.rep (En.int .i64) n.2.2.1,Pd.ptr (En.int .i64) 0,Pd.rep (En.int .i64) 0,Pd.ptr (En.int .i64) 0,Pd.rep (En.int .i64) 0,Pd.rep EnTk (tkN n.2.2.1 mB 0 0),Pd.any,Pd.any,Pd.any,Pd.rep (En.int .i64) 0] (fun im:List Unit × List (Tsk × List Unit)=>[Pd.ptr (En.int .i64) n.1,Pd.rep (En.int .i64) n.1,Pd.rep (En.pt EnRd) (rdN d g),Pd.rep (En.pt EnRd) (rdN d g),Pd.ptr (En.int .i64) n.2.2.1,Pd.rep (En.int .i64) n.2.2.1,Pd.ptr (En.int .i64) 0,Pd.rep (En.int .i64) 0,Pd.ptr (En.int .i64) 0,Pd.rep (En.int .i64) 0,Pd.rep EnTk (tkN n.2.2.1 mB 0 0),Pd.rep EnKs im.1,Pd.rep EnKs im.1,Pd.rep (En.int .i64) (im.1.length:Int),Pd.rep (En.int .i64) 0]) (fun im=>[(999902,Pd.mapc En.tsk kvTsk EnKs g im.2),(2,Pd.ptr (En.pt EnRd) (rdN d g)),(3,Pd.ptr EnTk (tkN i n 0 0)),(5,Pd.ptr En.SNode n),(6,Pd.rep (En.slice (En.int .u8)) ([]:List Int)),(7,Pd.row En.vtw s0.w.heap.size 257 og lA)]) (fun im=>zke d n.2.2.1 im.1∧zk0 d im.2) (fun r=>∀b,r.own b→¬ some g=some b) hL (by kernel_rfl) (fun _=>by kernel_rfl) (fun _=>rfl) rfl rfl (by kernel_rfl) rfl (fun _=>rfl) rfl rfl (fun im=>?_) ?_ (fun im him=>?_) ?_ (fun im him a s hL=>?_)
  ·exact ⟨fun _ _=>rfl,fun _ _=>rfl,fun _ _=>rfl,fun _ _=>rfl,fun _ _=>rfl,fun _ _=>rfl,fun _ _=>rfl,fun _ _=>rfl,fun _ _=>rfl,fun _ _=>rfl,fun _ _=>rfl,fun h _=>absurd rfl h,fun _ h=>absurd h (by rw [show zfn _ _ _ _=true from by kernel_rfl];decide),fun _ h=>absurd h (by rw [show zfn _ _ _ _=true from by kernel_rfl];decide),fun _ _=>rfl,trivial⟩
  ·refine zg0.t (zdb (off:=0) (o_t 5 rfl) Tryz.underlying42 rfl (zx (zn _ _)) rfl ty3 rfl rfl) nE ?_;refine zg0.t (zw ty3 (o_t 97 rfl) rfl rfl) nE ?_;refine zg0.t (zw zq2 (o_t 2 rfl) rfl rfl) nE ?_;refine zg0.t (zw zq2 (o_t 2 rfl) rfl rfl) nE ?_;refine zg0.t (zdb (off:=2) (o_t 5 rfl) Tryz.underlying42 rfl (ze (ze (zx (zn _ _)) rfl) rfl) rfl ty3 rfl rfl) nE ?_;refine zg0.t (zw ty3 (o_t 101 rfl) rfl rfl) nE ?_;refine zg0.t (zdb (off:=3) (o_t 3 rfl) Tryz.underlying184 rfl (ze (ze (ze (zx (zn _ _)) rfl) rfl) rfl) rfl ty3 rfl rfl) nE ?_;refine zg0.t (zw ty3 (o_t 103 rfl) rfl rfl) nE ?_;refine zg0.t (zdb (off:=4) (o_t 3 rfl) Tryz.underlying184 rfl (ze (ze (ze (ze (zn _ _) rfl) rfl) rfl) rfl) rfl ty3 rfl rfl) nE ?_;refine zg0.t (zw ty3 (o_t 105 rfl) rfl rfl) nE ?_;refine zg0.t (zdl (zh7 hmB) (xs:=[.tmp 100,.tmp 102,.tmp 104,.tmp 106]) (.cons (o_tp (o_t 100 rfl)) (.cons (o_t 102 rfl) (.cons (o_t 104 rfl) (.cons (o_t 106 rfl) .nil)))) rfl rfl) nE ?_;refine zg0.c rfl ?_;refine zg0.r (by kernel_rfl) ?_;refine zg0.r (by kernel_rfl) ?_;refine zg0.t (zj (o_i (k:=.i64) (by decide)) rfl rfl) nE ?_;exact zg0.nil
  ·refine zb9.cons (zdb (off:=0) (o_t 5 rfl) Tryz.underlying42 rfl (zx (zn _ _)) rfl ty3 rfl rfl) ?_;refine zb9.cons (zw ty3 (o_t 97 rfl) rfl rfl) ?_;refine zb9.cons (zw zq2 (o_t 2 rfl) rfl rfl) ?_;refine zb9.cons (zw zq2 (o_t 2 rfl) rfl rfl) ?_;refine zb9.cons (zdb (off:=2) (o_t 5 rfl) Tryz.underlying42 rfl (ze (ze (zx (zn _ _)) rfl) rfl) rfl ty3 rfl rfl) ?_;refine zb9.cons (zw ty3 (o_t 101 rfl) rfl rfl) ?_;refine zb9.cons (zdb (off:=3) (o_t 3 rfl) Tryz.underlying184 rfl (ze (ze (ze (zx (zn _ _)) rfl) rfl) rfl) rfl ty3 rfl rfl) ?_;refine zb9.cons (zw ty3 (o_t 103 rfl) rfl rfl) ?_;refine zb9.cons (zdb (off:=4) (o_t 3 rfl) Tryz.underlying184 rfl (ze (ze (ze (ze (zn _ _) rfl) rfl) rfl) rfl) rfl ty3 rfl rfl) ?_;refine zb9.cons (zw ty3 (o_t 105 rfl) rfl rfl) ?_;refine zb9.cons (zdl (zh7 hmB) (xs:=[.tmp 100,.tmp 102,.tmp 104,.tmp 106]) (.cons (o_tp (o_t 100 rfl)) (.cons (o_t 102 rfl) (.cons (o_t 104 rfl) (.cons (o_t 106 rfl) .nil)))) rfl rfl) ?_;refine zb9.skip rfl ?_;refine zb9.cons (zdl (wrap_frz him.1.1) (xs:=[.tmp 98,.const (.int .i64 1),.tmp 108]) (.cons (o_t 98 rfl) (.cons (o_i (k:=.i64) (by decide)) (.cons (o_t 108 rfl) .nil))) rfl rfl) ?_;refine zb9.cons (zi2 (o_t 109 rfl) Tryz.underlying143 rfl rfl) ?_;refine zb9.cons (zj (o_i (k:=.i64) (by decide)) rfl rfl) ?_;exact zb9.nil
  ·intro a s' hL' KK hKK;exact callc_k (L':=[(2,Pd.ptr (En.pt EnRd) (rdN d g)),(3,Pd.ptr EnTk (tkN i n 0 0)),(5,Pd.ptr En.SNode n),(6,Pd.rep (En.slice (En.int .u8)) ([]:List Int)),(7,Pd.row En.vtw s0.w.heap.size 257 og lA)]) 108 999902 hL' (hV _ mB b0 b1 hmB ysA hysA) rfl (.inl rfl) (zs:=[.tmp 99,.tmp 107]) (.cons (o_tp (o_t 99 rfl)) (.cons (o_t 107 rfl) .nil)) rfl rfl rfl (.cons (t:=2) rfl nE (.cons (t:=3) rfl nE (.cons (t:=5) rfl nE (.cons (t:=6) rfl nE (.cons (t:=7) rfl dg.ow .nil)))))
    fun v s'' im him hq hL2 hpres=>hKK v s'' im _ him rfl hq hL2 hpres
  obtain ⟨lB,ysB⟩:=im;obtain ⟨hgB,hysB⟩:=him;replace hgB:zke d n.2.2.1 lB:=hgB;replace hysB:zk0 d ysB:=hysB;refine en' ?_;show Kc a s.w;refine hKc _ _ ?_;refine wp_block ?_;refine lpg (fun k a s=>∃(j:Nat) (out:List Unit) (og:Option Nat),j+k=lB.length+1∧Has (fun b=>some g=some b) 139 s0 a s [(7,Pd.row En.vtw s0.w.heap.size 257 og out),(109,Pd.rep EnKs lB),(110,Pd.rep (En.int .i64) (lB.length:Int)),(111,Pd.rep (En.int .i64) (j:Int)),(999902,Pd.mapc En.tsk kvTsk EnKs g ysB)]∧out.length≤2∧(out≠[]↔lA≠[]∨0<j)∧j≤lB.length) (lB.length+1)
   ⟨0,lA,og,by omega,hL.kk,hgA.1,by simp,Nat.zero_le _⟩ ?_
  rintro k a s ⟨j,out,og,hjk,hL,hol,hoj,hjl⟩ KL hKL;refine wp_seq_k fun Kd hKd=>?_;refine rg ?_;refine st 112 (zi1 (o_t 111 rfl) (o_t 110 rfl) rfl rfl) rfl rfl hL fun a s e_ hL=>?_;refine en' ?_;show Kd a s.w;refine hKd _ _ ?_;refine wp_seq_k fun Ke hKe=>?_;refine cnd hL rfl (fun hbj_=>?_) (fun hbj_=>?_)
  case refine_2=>
   refine wp_exit ?_;show Kb a s.w;refine hKb _ _ ?_;have hj:lB.length≤j:=by have:=df hbj_;omega
   have hje:j=lB.length:=by omega
   have dg:=ogs hL (t:=7) rfl;obtain ⟨s2,hw2,hL⟩:=hL.freeze (L':=[(999902,Pd.mapc En.tsk kvTsk EnKs g ysB)]) 7 rfl (.cons (t:=999902) rfl dg.symm.ow .nil);rw [← hw2];clear hw2;generalize s2=s at *;refine wp_seq_k fun Kf hKf=>?_;refine rg ?_;refine st 119 (zj (o_t 7 rfl) rfl rfl) rfl rfl hL fun a s e_ hL=>?_;refine st 4 (zp (o_t 119 rfl) rfl rfl) rfl rfl hL fun a s e_ hL=>?_;refine en' ?_;show Kf a s.w;refine hKf _ _ ?_;refine wp_ret (retc (out,ysB) ⟨⟨hol, ?_⟩,hysB⟩ rfl hL rfl rfl);show out≠[]↔_;rw [hoj,hnul,Bool.or_eq_true,← hgA.2,← hgB.2,hje,List.length_pos_iff]
  have hj:j<lB.length:=by have:=dt hbj_;omega
  have htj:at? lB (j:Int)=some ():=by rw [zbm];simp [hj]
  refine wp_skip ?_;show Ke a s.w;refine hKe _ _ ?_;refine wp_seq_k fun Kg hKg=>?_;refine wp_block ?_;refine wp_seq_k fun Kh hKh=>?_;refine rg ?_;refine st 113 (zkb (o_t 109 rfl) (o_t 111 rfl) htj Tryz.underlying143 zhq rfl rfl) rfl rfl hL fun a s e_ hL=>?_;refine st 114 (zw zhq (o_t 113 rfl) rfl rfl) rfl rfl hL fun a s e_ hL=>?_;have lt7:=hL.rlt 7 rfl;have ltg:∀k,some g=some k→k<s.w.heap.size:=fun k e=>by cases e;exact Nat.lt_of_lt_of_le hgs hL.ent.mv.size
  refine zz En.vtw (z:=()) 9 hL tyzVw rfl rfl rfl rfl fun a s g9 hg9 hL=>?_;have d9:Dis (some g9) og:=Dis.newg hg9 lt7;have d9g:Dis (some g9) (some g):=Dis.newg hg9 ltg;refine zgs (L':=[(7,Pd.row En.vtw s0.w.heap.size 257 og out),(109,Pd.rep EnKs lB),(110,Pd.rep (En.int .i64) (lB.length:Int)),(111,Pd.rep (En.int .i64) (j:Int)),(999902,Pd.mapc En.tsk kvTsk EnKs g ysB)]) 9 hL rfl (o_t 114 rfl) zhq rfl rfl rfl (.cons (t:=7) rfl d9.symm.ow (.cons (t:=109) rfl nE (.cons (t:=110) rfl nE (.cons (t:=111) rfl nE (.cons (t:=999902) rfl d9g.symm.ow .nil))))) fun s hL=>?_;refine en' ?_;show Kh a s.w;refine hKh _ _ ?_;refine rg ?_;refine st 115 (zj (o_t 7 rfl) rfl rfl) rfl rfl hL fun a s e_ hL=>?_;refine st 116 (zgo zhq (o_t 9 rfl) rfl rfl) rfl rfl hL fun a s e_ hL=>?_;have dg:=ogs hL (t:=7) rfl;refine zqh (L':=[(109,Pd.rep EnKs lB),(110,Pd.rep (En.int .i64) (lB.length:Int)),(111,Pd.rep (En.int .i64) (j:Int)),(999902,Pd.mapc En.tsk kvTsk EnKs g ysB)]) 117 hL hol (o_t 115 rfl) (o_t 116 rfl) rfl rfl rfl rfl (.cons (t:=109) rfl nE (.cons (t:=110) rfl nE (.cons (t:=111) rfl nE (.cons (t:=999902) rfl dg.symm.ow .nil)))) fun a s og' r hog' hrne hrl hL=>?_;refine st 7 (zp (o_t 117 rfl) rfl rfl) rfl rfl hL fun a s e_ hL=>?_;refine en' ?_;show Kg a s.w;refine hKg _ _ ?_;refine rg ?_;refine st 118 (zi6 (o_t 111 rfl) (o_i (k:=.i64) (by decide)) (zi (by have:=hgB.1;omega) (by have:=hgB.1;omega)) rfl rfl) rfl rfl hL fun a s e_ hL=>?_;refine st 111 (zj (o_t 118 rfl) rfl rfl) rfl rfl hL fun a s e_ hL=>?_
  refine en' ?_;exact hKL (k-1) a s (by omega) ⟨j+1,r,og',by omega,hL.kk,hrl,⟨fun _=>.inr (by omega),fun _=>hrne⟩,by omega⟩
 have hk5:¬ n.1=5:=by simpa using hb5_
 refine wp_seq_k fun K17 hK17=>?_;have J67:∀(a:Act) (s:St) (b:Bool),b=(decide (n.1=6∨n.1=7))→Has (fun b=>some g=some b) 139 s0 a s [(120,Pd.rep En.bool b),(29,Pd.rep (En.int .i64) n.1),(2,Pd.ptr (En.pt EnRd) (rdN d g)),(3,Pd.ptr EnTk (tkN i n 0 0)),(5,Pd.ptr En.SNode n),(6,Pd.rep (En.slice (En.int .u8)) ([]:List Int)),(999902,Pd.mapc En.tsk kvTsk EnKs g xs)]→K17 a s.w:=by
  intro a s b hbe hL;refine hK17 _ _ ?_;refine cnd hL rfl (fun hb6_=>?_) (fun hb6_=>?_)
  ·have hk:n.1=6∨n.1=7:=of_decide_eq_true (hbe ▸ hb6_);have hnul:zjh d d.length i=decide (n.1=6∨n.2.2.2.1=0):=by
    rw [hstep];rcases hk with h | h <;> simp [h]
   refine wp_seq_k fun K18 hK18=>?_;refine rg ?_;refine st 123 (zw zq2 (o_t 2 rfl) rfl rfl) rfl rfl hL fun a s e_ hL=>?_;refine st 124 (zw tyTk (o_t 3 rfl) rfl rfl) rfl rfl hL fun a s e_ hL=>?_;refine st 125 (zw ty42 (o_t 5 rfl) rfl rfl) rfl rfl hL fun a s e_ hL=>?_;refine st 126 (zdl (many_ok (d:=d) (g:=g) (i:=i) hk) (xs:=[.tmp 123,.tmp 124,.tmp 125]) (.cons (o_tp (o_t 123 rfl)) (.cons (o_t 124 rfl) (.cons (o_t 125 rfl) .nil))) rfl rfl) rfl rfl hL fun a s e_ hL=>?_;refine st 4 (zp (o_t 126 rfl) rfl rfl) rfl rfl hL fun a s e_ hL=>?_;refine en' ?_;show K18 a s.w;refine hK18 _ _ ?_;refine wp_ret (retc ((if n.1=6∨n.2.2.2.1=0 then [()] else []),xs) ⟨?_,hxs⟩ rfl hL rfl rfl)
   by_cases h:n.1=6∨n.2.2.2.1=0
   ·rw [if_pos h];exact zsc (by rw [hnul];exact decide_eq_true h)
   ·rw [if_neg h];exact znm (by rw [hnul];exact decide_eq_false h)
  have hk67:¬ (n.1=6∨n.1=7):=of_decide_eq_false (hbe ▸ hb6_);have hnul:zjh d d.length i=false:=by
   rw [hstep];have h6:¬ n.1=6:=fun h=>hk67 (.inl h);have h7:¬ n.1=7:=fun h=>hk67 (.inr h);simp [hk1,hk3,hk4,hk5,h6,h7]
  refine wp_seq_k fun K19 hK19=>?_;refine rg ?_;refine st 128 (zgp (o_t 29 rfl) (o_i (k:=.i64) (by decide)) rfl rfl) rfl rfl hL fun a s e_ hL=>?_;refine st 127 (zp (o_t 128 rfl) rfl rfl) rfl rfl hL fun a s e_ hL=>?_;refine en' ?_;show K19 a s.w;refine hK19 _ _ ?_;refine cnd hL rfl (fun hb8_=>?_) (fun hb8_=>?_)
  ·refine wp_seq_k fun K20 hK20=>?_;refine rg ?_;refine st 129 (zw zq2 (o_t 2 rfl) rfl rfl) rfl rfl hL fun a s e_ hL=>?_;refine st 130 (zw tyTk (o_t 3 rfl) rfl rfl) rfl rfl hL fun a s e_ hL=>?_;refine st 131 (zw ty42 (o_t 5 rfl) rfl rfl) rfl rfl hL fun a s e_ hL=>?_;refine st 132 (zdl (frame_ok (rd:=rdN d g) (x:=tkN i n 0 0) rfl rfl (n:=n) (h:=1) (.inl rfl)) (xs:=[.tmp 129,.tmp 130,.tmp 131,.const (.int .i64 1)]) (.cons (o_tp (o_t 129 rfl)) (.cons (o_t 130 rfl) (.cons (o_t 131 rfl) (.cons (o_i (k:=.i64) (by decide)) .nil)))) rfl rfl) rfl rfl hL fun a s e_ hL=>?_;refine st 4 (zp (o_t 132 rfl) rfl rfl) rfl rfl hL fun a s e_ hL=>?_;refine en' ?_;show K20 a s.w;refine hK20 _ _ ?_;exact wp_ret (retc ([],xs) ⟨znm hnul,hxs⟩ rfl hL rfl rfl)
  refine wp_seq_k fun K21 hK21=>?_;refine rg ?_;refine st 134 (zgp (o_t 29 rfl) (o_i (k:=.i64) (by decide)) rfl rfl) rfl rfl hL fun a s e_ hL=>?_;refine st 133 (zp (o_t 134 rfl) rfl rfl) rfl rfl hL fun a s e_ hL=>?_;refine en' ?_;show K21 a s.w;refine hK21 _ _ ?_;refine cnd hL rfl (fun hb9_=>?_) (fun hb9_=>?_)
  ·refine wp_seq_k fun K22 hK22=>?_;refine rg ?_;refine st 135 (zw zq2 (o_t 2 rfl) rfl rfl) rfl rfl hL fun a s e_ hL=>?_;refine st 136 (zw tyTk (o_t 3 rfl) rfl rfl) rfl rfl hL fun a s e_ hL=>?_;refine st 137 (zw ty42 (o_t 5 rfl) rfl rfl) rfl rfl hL fun a s e_ hL=>?_;refine st 138 (zdl (frame_ok (rd:=rdN d g) (x:=tkN i n 0 0) rfl rfl (n:=n) (h:=2) (.inr rfl)) (xs:=[.tmp 135,.tmp 136,.tmp 137,.const (.int .i64 2)]) (.cons (o_tp (o_t 135 rfl)) (.cons (o_t 136 rfl) (.cons (o_t 137 rfl) (.cons (o_i (k:=.i64) (by decide)) .nil)))) rfl rfl) rfl rfl hL fun a s e_ hL=>?_;refine st 4 (zp (o_t 138 rfl) rfl rfl) rfl rfl hL fun a s e_ hL=>?_;refine en' ?_;show K22 a s.w;refine hK22 _ _ ?_;exact wp_ret (retc ([],xs) ⟨znm hnul,hxs⟩ rfl hL rfl rfl)
  refine wp_skip ?_;exact fall a s xs hL.kk hxs hnul
 refine wp_seq_k fun K23 hK23=>?_;refine rg ?_;refine st 121 (zgp (o_t 29 rfl) (o_i (k:=.i64) (by decide)) rfl rfl) rfl rfl hL fun a s e_ hL=>?_;refine st 120 (zp (o_t 121 rfl) rfl rfl) rfl rfl hL fun a s e_ hL=>?_;refine en' ?_;show K23 a s.w;refine hK23 _ _ ?_;refine cnd hL rfl (fun hb7_=>?_) (fun hb7_=>?_)
 ·refine wp_skip ?_;exact J67 a s true (decide_eq_true (Or.inl (by simpa using hb7_))).symm (by rw [hb7_] at hL;exact hL.kk)
 refine rg ?_;refine st 122 (zgp (o_t 29 rfl) (o_i (k:=.i64) (by decide)) rfl rfl) rfl rfl hL fun a s e_ hL=>?_;refine st 120 (zp (o_t 122 rfl) rfl rfl) rfl rfl hL fun a s e_ hL=>?_;refine en' ?_;have h6:¬ n.1=6:=by simpa using hb7_
 exact J67 a s (n.1==7) (by by_cases h7:n.1=7 <;> simp [h6,h7]) hL.kk
set_option maxRecDepth 100000
theorem vals_all {d:List SNode} (hd:CntOk d) (g:Nat):∀(m:Nat) (i:Int) (n:SNode),0≤i→i.toNat=m→at? d i=some n→∀xs,zk0 d xs→ValsOk d g i n xs:=by
 intro m
 induction m using Nat.strongRecOn with
 | _ m ih=>
  intro i n h0 hm hn xs hxs;exact values_step hn (fun ys hys=>find_stepC hd hn (fun j mj j0 j1 hj zs hzs=>ih j.toNat (by omega) j mj j0 rfl hj zs hzs) hys) hxs
def Pd.gd (d:List SNode) (i:Int):Pd:=⟨fun s v=>∃l,zke d i l∧(Pd.rep EnKs l).p s v,fun _=>False,fun h hb ⟨l,hl,hp⟩=>⟨l,hl,(Pd.rep EnKs l).mv h (fun _ h=>h.elim) hp⟩⟩
theorem o_gd {d:List SNode} {i:Int} {l:List Unit} {L:Lst} {y:Operand} (hl:zke d i l) (h:Opn L y (Pd.rep EnKs l)):Opn L y (Pd.gd d i):=fun M n s0 a s hL=>⟨l,hl,h M n s0 a s hL⟩
theorem Has.gdopen {M:Nat→Prop} {n:Nat} {s0:St} {a:Act} {s:St} {L:Lst} {d:List SNode} {i:Int} (h:Has M n s0 a s L) (t:Nat) (hl:lk L t=some (Pd.gd d i)):∃l,zke d i l∧Has M n s0 a s ((t,Pd.rep EnKs l)::L):=by
 obtain ⟨l,hl,hp⟩:=h.get t hl;exact ⟨l,hl,h.cons t hp⟩
def Pd.gw (d:List SNode) (i:Int):Pd:=⟨fun s v=>∃l,zke d i l∧(Pd.rep (En.int .i64) (l.length:Int)).p s v,fun _=>False,fun h hb ⟨l,hl,hp⟩=>⟨l,hl,(Pd.rep (En.int .i64) (l.length:Int)).mv h (fun _ h=>h.elim) hp⟩⟩
theorem o_gw {d:List SNode} {i:Int} {l:List Unit} {L:Lst} {y:Operand} (hl:zke d i l) (h:Opn L y (Pd.rep (En.int .i64) (l.length:Int))):Opn L y (Pd.gw d i):=fun M n s0 a s hL=>⟨l,hl,h M n s0 a s hL⟩
theorem Has.gwopen {M:Nat→Prop} {n:Nat} {s0:St} {a:Act} {s:St} {L:Lst} {d:List SNode} {i:Int} (h:Has M n s0 a s L) (t:Nat) (hl:lk L t=some (Pd.gw d i)):∃l,zke d i l∧Has M n s0 a s ((t,Pd.rep (En.int .i64) (l.length:Int))::L):=by
 obtain ⟨l,hl,hp⟩:=h.get t hl;exact ⟨l,hl,h.cons t hp⟩
theorem zpa {d:List SNode} (hd:CntOk d):Fn Tryz.prog 81 [Pd.rep En.SDesc d,Pd.rep (En.slice (En.int .u8)) ([]:List Int)] (Rq (Pd.gd d ((d.length:Int)-1))):=by
 have hlen:0<d.length:=List.length_pos_iff.2 hd.ne;obtain ⟨n,hn⟩:=at_ex (d:=d) (i:=(d.length:Int)-1) (by omega) (by omega);have hl4:=hd.len;refine zbn Tryz.func81 rfl Tryz.ntmps81 (by rfl) (by simp) fun s0 a hL=>?_;refine wp_seq_k fun K0 hK0=>?_;refine rg ?_;refine st 2 (zgd (o_t 0 rfl) rfl rfl) rfl rfl hL fun a s e_ hL=>?_;refine st 4 (zp (q:=Pd.any) (fun _ _ _ _ _ _=>trivial) rfl rfl) rfl rfl hL fun a s e_ hL=>?_;refine en' ?_;show K0 a s.w;refine hK0 _ _ ?_;refine wp_seq_k fun K1 hK1=>?_;refine rg ?_;refine st 6 (zw ty24 (o_t 2 rfl) rfl rfl) rfl rfl hL fun a s e_ hL=>?_;refine st 7 (zj (o_t 1 rfl) rfl rfl) rfl rfl hL fun a s e_ hL=>?_;refine zjv 8 En.tsk kvTsk EnKs hL rfl rfl rfl rfl fun a s g hg hL=>?_;have hgN:s0.w.heap.size≤g:=(zle (hL.get 8 rfl) g rfl).1;have hL:=hL.mapc 8 999902 rfl;refine st 9 (zbj (x:=((d,[],some g):SDesc × List Int × Option Nat)) (ps:=[(0,.tmp 6),(1,.tmp 7),(2,.tmp 8)]) tyzRd rfl sttRd (.cons (i:=0) (o_t 6 rfl) rfl (z7 (zo _ _ _)) (.cons (i:=1) (o_t 7 rfl) rfl (zk (z7 (zo _ _ _)) rfl) (.cons (i:=2) (o_t 8 rfl) rfl (zk (zk (zo _ _ _) rfl) rfl) .nil))) rfl rfl) rfl rfl hL fun a s e_ hL=>?_;refine st 10 (zgd (o_t 9 rfl) rfl rfl) rfl rfl hL fun a s e_ hL=>?_;refine st 5 (zp (o_t 10 rfl) rfl rfl) rfl rfl hL fun a s e_ hL=>?_;refine en' ?_;show K1 a s.w;refine hK1 _ _ ?_;refine wp_seq_k fun K2 hK2=>?_;refine rg ?_;refine st 11 (zj (o_t 5 rfl) rfl rfl) rfl rfl hL fun a s e_ hL=>?_;refine st 12 (zj (o_t 5 rfl) rfl rfl) rfl rfl hL fun a s e_ hL=>?_;refine st 13 (zdb (off:=0) (o_t 2 rfl) Tryz.underlying24 rfl (zfv (zn _ _)) rfl ty22 rfl rfl) rfl rfl hL fun a s e_ hL=>?_
 refine st 14 (zw ty22 (o_t 13 rfl) rfl rfl) rfl rfl hL fun a s e_ hL=>?_;refine st 15 (zi2 (o_t 14 rfl) Tryz.underlying22 rfl rfl) rfl rfl hL fun a s e_ hL=>?_;refine st 16 (zlw (o_t 15 rfl) (o_i (k:=.i64) (by decide)) (zi (by omega) (by omega)) rfl rfl) rfl rfl hL fun a s e_ hL=>?_;refine st 17 (zj (o_t 1 rfl) rfl rfl) rfl rfl hL fun a s e_ hL=>?_;refine st (q:=Pd.rep (En.int .i64) 0) 18 (zi2 (xs:=([]:List Int)) (o_t 17 rfl) Tryz.underlying29 rfl rfl) rfl rfl hL fun a s e_ hL=>?_;refine st 19 (zdl (zh7 hn) (xs:=[.tmp 12,.tmp 16,.const (.int .i64 0),.tmp 18]) (.cons (o_t 12 rfl) (.cons (o_t 16 rfl) (.cons (o_i (k:=.i64) (by decide)) (.cons (o_t 18 rfl) .nil)))) rfl rfl) rfl rfl hL fun a s e_ hL=>?_;refine zib (L':=[]) 20 999902 hL (vals_all hd g _ _ n (by omega) rfl hn [] (zk0.nil _)) rfl (.inr hgN) (zs:=[.tmp 11,.tmp 19]) (.cons (o_t 11 rfl) (.cons (o_t 19 rfl) .nil)) rfl rfl rfl rfl .nil fun a s im him hL=>?_;obtain ⟨l,ys⟩:=im;obtain ⟨hgl,hys⟩:=him;refine st 4 (zp (o_gd hgl (o_t 20 rfl)) rfl rfl) rfl rfl hL fun a s e_ hL=>?_;refine en' ?_;show K2 a s.w;refine hK2 _ _ ?_;exact wp_ret (zdr rfl hL rfl)
theorem zsg {d:List SNode} (hd:CntOk d):Fn Tryz.prog 51 [Pd.rep En.SDesc d,Pd.rep (En.slice (En.int .u8)) ([]:List Int)] (Rq (Pd.gw d ((d.length:Int)-1))):=by
 refine zbn Tryz.func51 rfl Tryz.ntmps51 (by rfl) (by simp) fun s0 a hL=>?_;refine wp_seq_k fun K0 hK0=>?_;refine rg ?_;refine st 2 (zgd (o_t 0 rfl) rfl rfl) rfl rfl hL fun a s e_ hL=>?_;refine st 4 (zp (q:=Pd.any) (fun _ _ _ _ _ _=>trivial) rfl rfl) rfl rfl hL fun a s e_ hL=>?_;refine en' ?_;show K0 a s.w;refine hK0 _ _ ?_;refine wp_seq_k fun K1 hK1=>?_;refine rg ?_;refine st 5 (zw ty24 (o_t 2 rfl) rfl rfl) rfl rfl hL fun a s e_ hL=>?_;refine st 6 (zj (o_t 1 rfl) rfl rfl) rfl rfl hL fun a s e_ hL=>?_;refine st 7 (zdl (zpa hd) (xs:=[.tmp 5,.tmp 6]) (.cons (o_t 5 rfl) (.cons (o_t 6 rfl) .nil)) rfl rfl) rfl rfl hL fun a s e_ hL=>?_;obtain ⟨l,hgl,hL⟩:=hL.gdopen 7 rfl;refine st 8 (zi2 (o_t 7 rfl) Tryz.underlying143 rfl rfl) rfl rfl hL fun a s e_ hL=>?_;refine st 4 (zp (o_gw hgl (o_t 8 rfl)) rfl rfl) rfl rfl hL fun a s e_ hL=>?_;refine en' ?_;show K1 a s.w;refine hK1 _ _ ?_;exact wp_ret (zdr rfl hL rfl)
theorem count_Has_ok {d_:SDesc} {w_:List Int} {r_:Bool} (h:count_Has d_ w_ r_):Fn Tryz.prog 21 [(Pd.rep En.SDesc d_),(Pd.rep (En.slice (En.int .u8)) w_)] (Rq (Pd.rep En.bool r_)):=by
 obtain ⟨rfl,hd,hr⟩:=h;refine zbn Tryz.func21 rfl Tryz.ntmps21 (by rfl) (by simp) fun s0 a hL=>?_;refine wp_seq_k fun K0 hK0=>?_;refine rg ?_;refine st 2 (zgd (o_t 0 rfl) rfl rfl) rfl rfl hL fun a s e_ hL=>?_;refine st 4 (zp (q:=Pd.any) (fun _ _ _ _ _ _=>trivial) rfl rfl) rfl rfl hL fun a s e_ hL=>?_;refine en' ?_;show K0 a s.w;refine hK0 _ _ ?_;refine wp_seq_k fun K1 hK1=>?_;refine rg ?_;refine st 5 (zw ty24 (o_t 2 rfl) rfl rfl) rfl rfl hL fun a s e_ hL=>?_;refine st 6 (zj (o_t 1 rfl) rfl rfl) rfl rfl hL fun a s e_ hL=>?_;refine st 7 (zdl (zsg hd) (xs:=[.tmp 5,.tmp 6]) (.cons (o_t 5 rfl) (.cons (o_t 6 rfl) .nil)) rfl rfl) rfl rfl hL fun a s e_ hL=>?_;obtain ⟨l,hgl,hL⟩:=hL.gwopen 7 rfl;refine st 8 (t_gtr (o_t 7 rfl) (o_i (k:=.i64) (by decide)) rfl rfl) rfl rfl hL fun a s e_ hL=>?_;have he:decide (0<(l.length:Int))=r_:=by
  rw [hr,Bool.eq_iff_iff,decide_eq_true_iff,← hgl.2,← List.length_pos_iff];omega
 refine st (q:=Pd.rep En.bool r_) 4 (zp (he ▸ o_t 8 rfl) rfl rfl) rfl rfl hL fun a s e_ hL=>?_;refine en' ?_;show K1 a s.w;refine hK1 _ _ ?_;exact wp_ret (zdr rfl hL rfl)
end Go.Proofs.YtjdaaiodniicoaaGreatDoor.V
namespace Go.Proofs.YtjdaaiodniicoaaGreatDoor.V
open Go Go.Shelf
set_option linter.unusedVariables false
set_option maxRecDepth 100000
def sl169_ren:Go.Shelf.Ren:=⟨fun | 169=>95 | n=>n,fun | 70=>163 | 9=>9 | 0=>0 | 72=>165 | 37=>29 | 127=>205 | 3=>3 | 5=>5 | n=>n,fun | n=>n⟩
theorem sl169:Go.Proofs.Lays.n169 Tryz.prog sl169_ren where
 mixed:=by kernel_rfl
 f169:=Tryz.func95.trans (congrArg some (by kernel_rfl))
 t0:=Tryz.underlying0
 a0:=Tryz.isAgg0
 z0:=Tryz.sizeOf0
 v0:=Tryz.zeroValue0
 t3:=Tryz.underlying3
 a3:=Tryz.isAgg3
 z3:=Tryz.sizeOf3
 v3:=Tryz.zeroValue3
 t9:=Tryz.underlying9
 a9:=Tryz.isAgg9
 z9:=Tryz.sizeOf9
 v9:=Tryz.zeroValue9
 t37:=Tryz.underlying29
 a37:=Tryz.isAgg29
 z37:=Tryz.sizeOf29
 v37:=Tryz.zeroValue29
 t70:=Tryz.underlying163
 a70:=Tryz.isAgg163
 z70:=Tryz.sizeOf163
 v70:=Tryz.zeroValue163
 t72:=Tryz.underlying165
 a72:=Tryz.isAgg165
 z72:=Tryz.sizeOf165
 v72:=Tryz.zeroValue165
 t127:=Tryz.underlying205
 a127:=Tryz.isAgg205
 z127:=Tryz.sizeOf205
 v127:=Tryz.zeroValue205
def sl171_ren:Go.Shelf.Ren:=⟨fun | 171=>64 | 243=>92 | 246=>118 | 283=>146 | 284=>147 | 285=>148 | 286=>149 | 129=>143 | 317=>192 | 318=>193 | 319=>194 | 320=>195 | 337=>210 | 338=>211 | n=>n,fun | 3=>3 | 9=>9 | 2=>2 | 4=>4 | 171=>239 | 0=>0 | 53=>38 | 37=>29 | 5=>5 | 173=>241 | 212=>284 | 51=>236 | 20=>20 | 213=>285 | 46=>198 | 232=>303 | 233=>304 | n=>n,fun | 17=>1 | 18=>3 | 19=>4 | n=>n⟩
theorem sl171:Go.Proofs.LaysM.n171 Tryz.prog sl171_ren where
 mixed:=by kernel_rfl
 f129:=Tryz.func143.trans (congrArg some (by kernel_rfl))
 f171:=Tryz.func64.trans (congrArg some (by kernel_rfl))
 f243:=Tryz.func92.trans (congrArg some (by kernel_rfl))
 f246:=Tryz.func118.trans (congrArg some (by kernel_rfl))
 f283:=Tryz.func146.trans (congrArg some (by kernel_rfl))
 f284:=Tryz.func147.trans (congrArg some (by kernel_rfl))
 f285:=Tryz.func148.trans (congrArg some (by kernel_rfl))
 f286:=Tryz.func149.trans (congrArg some (by kernel_rfl))
 f317:=Tryz.func192.trans (congrArg some (by kernel_rfl))
 f318:=Tryz.func193.trans (congrArg some (by kernel_rfl))
 f319:=Tryz.func194.trans (congrArg some (by kernel_rfl))
 f320:=Tryz.func195.trans (congrArg some (by kernel_rfl))
 f337:=Tryz.func210.trans (congrArg some (by kernel_rfl))
 f338:=Tryz.func211.trans (congrArg some (by kernel_rfl))
 t0:=Tryz.underlying0
 a0:=Tryz.isAgg0
 z0:=Tryz.sizeOf0
 v0:=Tryz.zeroValue0
 t2:=Tryz.underlying2
 a2:=Tryz.isAgg2
 z2:=Tryz.sizeOf2
 v2:=Tryz.zeroValue2
 t3:=Tryz.underlying3
 a3:=Tryz.isAgg3
 z3:=Tryz.sizeOf3
 v3:=Tryz.zeroValue3
 t4:=Tryz.underlying4
 a4:=Tryz.isAgg4
 z4:=Tryz.sizeOf4
 v4:=Tryz.zeroValue4
 t5:=Tryz.underlying5
 a5:=Tryz.isAgg5
 z5:=Tryz.sizeOf5
 v5:=Tryz.zeroValue5
 t9:=Tryz.underlying9
 a9:=Tryz.isAgg9
 z9:=Tryz.sizeOf9
 v9:=Tryz.zeroValue9
 t20:=Tryz.underlying20
 a20:=Tryz.isAgg20
 z20:=Tryz.sizeOf20
 v20:=Tryz.zeroValue20
 t37:=Tryz.underlying29
 a37:=Tryz.isAgg29
 z37:=Tryz.sizeOf29
 v37:=Tryz.zeroValue29
 t46:=Tryz.underlying198
 a46:=Tryz.isAgg198
 z46:=Tryz.sizeOf198
 v46:=Tryz.zeroValue198
 t51:=Tryz.underlying236
 a51:=Tryz.isAgg236
 z51:=Tryz.sizeOf236
 v51:=Tryz.zeroValue236
 t53:=Tryz.underlying38
 a53:=Tryz.isAgg38
 z53:=Tryz.sizeOf38
 v53:=Tryz.zeroValue38
 t171:=Tryz.underlying239
 a171:=Tryz.isAgg239
 z171:=Tryz.sizeOf239
 v171:=Tryz.zeroValue239
 t173:=Tryz.underlying241
 a173:=Tryz.isAgg241
 z173:=Tryz.sizeOf241
 v173:=Tryz.zeroValue241
 t212:=Tryz.underlying284
 a212:=Tryz.isAgg284
 z212:=Tryz.sizeOf284
 v212:=Tryz.zeroValue284
 t213:=Tryz.underlying285
 a213:=Tryz.isAgg285
 z213:=Tryz.sizeOf285
 t232:=Tryz.underlying303
 a232:=Tryz.isAgg303
 z232:=Tryz.sizeOf303
 v232:=Tryz.zeroValue303
 t233:=Tryz.underlying304
 a233:=Tryz.isAgg304
 z233:=Tryz.sizeOf304
 v233:=Tryz.zeroValue304
 g17:=by kernel_rfl
 g18:=by kernel_rfl
 g19:=by kernel_rfl
 i0:=by kernel_rfl
 i2:=by kernel_rfl
 i3:=by kernel_rfl
 i4:=by kernel_rfl
 i5:=by kernel_rfl
 i9:=by kernel_rfl
 i20:=by kernel_rfl
 i37:=by kernel_rfl
 i46:=by kernel_rfl
 i51:=by kernel_rfl
 i53:=by kernel_rfl
 i171:=by kernel_rfl
 i173:=by kernel_rfl
 i212:=by kernel_rfl
 i232:=by kernel_rfl
 i233:=by kernel_rfl
 m17:=by kernel_rfl
 m18:=by kernel_rfl
 m19:=by kernel_rfl
def slsort_ren:Go.Shelf.Ren:=⟨fun | 6=>109 | 15=>112 | 14=>133 | 28=>142 | 29=>143 | 20=>178 | 21=>179 | 22=>180 | 23=>181 | 24=>182 | 25=>183 | 26=>184 | 27=>185 | 46=>206 | 47=>187 | 48=>188 | 49=>207 | 50=>208 | 57=>217 | n=>n,fun | 22=>152 | 24=>155 | 25=>195 | 3=>3 | 39=>198 | 0=>0 | 53=>236 | 55=>38 | 4=>4 | 46=>230 | 45=>229 | 50=>109 | 5=>5 | 9=>9 | 66=>276 | 70=>280 | 76=>295 | 77=>296 | n=>n,fun | n=>n⟩
theorem slsort:Go.Proofs.SlLaysF0.n6 Tryz.prog slsort_ren where
 mixed:=by kernel_rfl
 f6:=⟨"slices.SortFunc[[]scantling/api.Branch,scantling/api.Branch]",by decide,Tryz.func109.trans (congrArg some (by kernel_rfl))⟩
 f14:=⟨"slices.pdqsortCmpFunc[scantling/api.Branch]",by decide,Tryz.func133.trans (congrArg some (by kernel_rfl))⟩
 f15:=Tryz.func112.trans (congrArg some (by kernel_rfl))
 f20:=⟨"slices.insertionSortCmpFunc[scantling/api.Branch]",by decide,Tryz.func178.trans (congrArg some (by kernel_rfl))⟩
 f21:=⟨"slices.heapSortCmpFunc[scantling/api.Branch]",by decide,Tryz.func179.trans (congrArg some (by kernel_rfl))⟩
 f22:=⟨"slices.breakPatternsCmpFunc[scantling/api.Branch]",by decide,Tryz.func180.trans (congrArg some (by kernel_rfl))⟩
 f23:=⟨"slices.choosePivotCmpFunc[scantling/api.Branch]",by decide,Tryz.func181.trans (congrArg some (by kernel_rfl))⟩
 f24:=⟨"slices.reverseRangeCmpFunc[scantling/api.Branch]",by decide,Tryz.func182.trans (congrArg some (by kernel_rfl))⟩
 f25:=⟨"slices.partialInsertionSortCmpFunc[scantling/api.Branch]",by decide,Tryz.func183.trans (congrArg some (by kernel_rfl))⟩
 f26:=⟨"slices.partitionEqualCmpFunc[scantling/api.Branch]",by decide,Tryz.func184.trans (congrArg some (by kernel_rfl))⟩
 f27:=⟨"slices.partitionCmpFunc[scantling/api.Branch]",by decide,Tryz.func185.trans (congrArg some (by kernel_rfl))⟩
 f28:=Tryz.func142.trans (congrArg some (by kernel_rfl))
 f29:=Tryz.func143.trans (congrArg some (by kernel_rfl))
 f46:=⟨"slices.siftDownCmpFunc[scantling/api.Branch]",by decide,Tryz.func206.trans (congrArg some (by kernel_rfl))⟩
 f47:=Tryz.func187.trans (congrArg some (by kernel_rfl))
 f48:=Tryz.func188.trans (congrArg some (by kernel_rfl))
 f49:=⟨"slices.medianAdjacentCmpFunc[scantling/api.Branch]",by decide,Tryz.func207.trans (congrArg some (by kernel_rfl))⟩
 f50:=⟨"slices.medianCmpFunc[scantling/api.Branch]",by decide,Tryz.func208.trans (congrArg some (by kernel_rfl))⟩
 f57:=⟨"slices.order2CmpFunc[scantling/api.Branch]",by decide,Tryz.func217.trans (congrArg some (by kernel_rfl))⟩
 t0:=Tryz.underlying0
 a0:=Tryz.isAgg0
 z0:=Tryz.sizeOf0
 v0:=Tryz.zeroValue0
 t3:=Tryz.underlying3
 a3:=Tryz.isAgg3
 z3:=Tryz.sizeOf3
 v3:=Tryz.zeroValue3
 t4:=Tryz.underlying4
 a4:=Tryz.isAgg4
 z4:=Tryz.sizeOf4
 v4:=Tryz.zeroValue4
 t5:=Tryz.underlying5
 a5:=Tryz.isAgg5
 z5:=Tryz.sizeOf5
 v5:=Tryz.zeroValue5
 t9:=Tryz.underlying9
 a9:=Tryz.isAgg9
 z9:=Tryz.sizeOf9
 v9:=Tryz.zeroValue9
 t22:=Tryz.underlying152
 a22:=Tryz.isAgg152
 z22:=Tryz.sizeOf152
 v22:=Tryz.zeroValue152
 t25:=Tryz.underlying195
 a25:=Tryz.isAgg195
 z25:=Tryz.sizeOf195
 v25:=Tryz.zeroValue195
 t39:=Tryz.underlying198
 a39:=Tryz.isAgg198
 z39:=Tryz.sizeOf198
 v39:=Tryz.zeroValue198
 t45:=Tryz.underlying229
 a45:=Tryz.isAgg229
 z45:=Tryz.sizeOf229
 v45:=Tryz.zeroValue229
 t46:=Tryz.underlying230
 a46:=Tryz.isAgg230
 z46:=Tryz.sizeOf230
 v46:=Tryz.zeroValue230
 t50:=Tryz.underlying109
 a50:=Tryz.isAgg109
 z50:=Tryz.sizeOf109
 v50:=Tryz.zeroValue109
 t53:=Tryz.underlying236
 a53:=Tryz.isAgg236
 z53:=Tryz.sizeOf236
 v53:=Tryz.zeroValue236
 t55:=Tryz.underlying38
 a55:=Tryz.isAgg38
 z55:=Tryz.sizeOf38
 v55:=Tryz.zeroValue38
 t66:=Tryz.underlying276
 a66:=Tryz.isAgg276
 z66:=Tryz.sizeOf276
 v66:=Tryz.zeroValue276
 t70:=Tryz.underlying280
 a70:=Tryz.isAgg280
 z70:=Tryz.sizeOf280
 v70:=Tryz.zeroValue280
 t76:=Tryz.underlying295
 a76:=Tryz.isAgg295
 z76:=Tryz.sizeOf295
 v76:=Tryz.zeroValue295
 t77:=Tryz.underlying296
 a77:=Tryz.isAgg296
 z77:=Tryz.sizeOf296
 v77:=Tryz.zeroValue296
def slsortW_ren:Go.Shelf.Ren:=⟨fun | 6=>99 | 15=>112 | 14=>121 | 28=>142 | 29=>143 | 20=>152 | 21=>153 | 22=>154 | 23=>155 | 24=>156 | 25=>157 | 26=>158 | 27=>159 | 46=>196 | 47=>187 | 48=>188 | 49=>197 | 50=>198 | 57=>212 | n=>n,fun | 22=>129 | 24=>80 | 25=>176 | 3=>3 | 39=>198 | 0=>0 | 53=>236 | 55=>38 | 4=>4 | 46=>230 | 45=>229 | 50=>109 | 5=>5 | 9=>9 | 66=>276 | 70=>280 | 76=>295 | 77=>296 | n=>n,fun | n=>n⟩
theorem slsortW:Go.Proofs.SlLaysF0.n6 Tryz.prog slsortW_ren where
 mixed:=by kernel_rfl
 f6:=⟨"slices.SortFunc[[]scantling/twice.two,scantling/twice.two]",by decide,Tryz.func99.trans (congrArg some (by kernel_rfl))⟩
 f14:=⟨"slices.pdqsortCmpFunc[scantling/twice.two]",by decide,Tryz.func121.trans (congrArg some (by kernel_rfl))⟩
 f15:=Tryz.func112.trans (congrArg some (by kernel_rfl))
 f20:=⟨"slices.insertionSortCmpFunc[scantling/twice.two]",by decide,Tryz.func152.trans (congrArg some (by kernel_rfl))⟩
 f21:=⟨"slices.heapSortCmpFunc[scantling/twice.two]",by decide,Tryz.func153.trans (congrArg some (by kernel_rfl))⟩
 f22:=⟨"slices.breakPatternsCmpFunc[scantling/twice.two]",by decide,Tryz.func154.trans (congrArg some (by kernel_rfl))⟩
 f23:=⟨"slices.choosePivotCmpFunc[scantling/twice.two]",by decide,Tryz.func155.trans (congrArg some (by kernel_rfl))⟩
 f24:=⟨"slices.reverseRangeCmpFunc[scantling/twice.two]",by decide,Tryz.func156.trans (congrArg some (by kernel_rfl))⟩
 f25:=⟨"slices.partialInsertionSortCmpFunc[scantling/twice.two]",by decide,Tryz.func157.trans (congrArg some (by kernel_rfl))⟩
 f26:=⟨"slices.partitionEqualCmpFunc[scantling/twice.two]",by decide,Tryz.func158.trans (congrArg some (by kernel_rfl))⟩
 f27:=⟨"slices.partitionCmpFunc[scantling/twice.two]",by decide,Tryz.func159.trans (congrArg some (by kernel_rfl))⟩
 f28:=Tryz.func142.trans (congrArg some (by kernel_rfl))
 f29:=Tryz.func143.trans (congrArg some (by kernel_rfl))
 f46:=⟨"slices.siftDownCmpFunc[scantling/twice.two]",by decide,Tryz.func196.trans (congrArg some (by kernel_rfl))⟩
 f47:=Tryz.func187.trans (congrArg some (by kernel_rfl))
 f48:=Tryz.func188.trans (congrArg some (by kernel_rfl))
 f49:=⟨"slices.medianAdjacentCmpFunc[scantling/twice.two]",by decide,Tryz.func197.trans (congrArg some (by kernel_rfl))⟩
 f50:=⟨"slices.medianCmpFunc[scantling/twice.two]",by decide,Tryz.func198.trans (congrArg some (by kernel_rfl))⟩
 f57:=⟨"slices.order2CmpFunc[scantling/twice.two]",by decide,Tryz.func212.trans (congrArg some (by kernel_rfl))⟩
 t0:=Tryz.underlying0
 a0:=Tryz.isAgg0
 z0:=Tryz.sizeOf0
 v0:=Tryz.zeroValue0
 t3:=Tryz.underlying3
 a3:=Tryz.isAgg3
 z3:=Tryz.sizeOf3
 v3:=Tryz.zeroValue3
 t4:=Tryz.underlying4
 a4:=Tryz.isAgg4
 z4:=Tryz.sizeOf4
 v4:=Tryz.zeroValue4
 t5:=Tryz.underlying5
 a5:=Tryz.isAgg5
 z5:=Tryz.sizeOf5
 v5:=Tryz.zeroValue5
 t9:=Tryz.underlying9
 a9:=Tryz.isAgg9
 z9:=Tryz.sizeOf9
 v9:=Tryz.zeroValue9
 t22:=Tryz.underlying129
 a22:=Tryz.isAgg129
 z22:=Tryz.sizeOf129
 v22:=Tryz.zeroValue129
 t25:=Tryz.underlying176
 a25:=Tryz.isAgg176
 z25:=Tryz.sizeOf176
 v25:=Tryz.zeroValue176
 t39:=Tryz.underlying198
 a39:=Tryz.isAgg198
 z39:=Tryz.sizeOf198
 v39:=Tryz.zeroValue198
 t45:=Tryz.underlying229
 a45:=Tryz.isAgg229
 z45:=Tryz.sizeOf229
 v45:=Tryz.zeroValue229
 t46:=Tryz.underlying230
 a46:=Tryz.isAgg230
 z46:=Tryz.sizeOf230
 v46:=Tryz.zeroValue230
 t50:=Tryz.underlying109
 a50:=Tryz.isAgg109
 z50:=Tryz.sizeOf109
 v50:=Tryz.zeroValue109
 t53:=Tryz.underlying236
 a53:=Tryz.isAgg236
 z53:=Tryz.sizeOf236
 v53:=Tryz.zeroValue236
 t55:=Tryz.underlying38
 a55:=Tryz.isAgg38
 z55:=Tryz.sizeOf38
 v55:=Tryz.zeroValue38
 t66:=Tryz.underlying276
 a66:=Tryz.isAgg276
 z66:=Tryz.sizeOf276
 v66:=Tryz.zeroValue276
 t70:=Tryz.underlying280
 a70:=Tryz.isAgg280
 z70:=Tryz.sizeOf280
 v70:=Tryz.zeroValue280
 t76:=Tryz.underlying295
 a76:=Tryz.isAgg295
 z76:=Tryz.sizeOf295
 v76:=Tryz.zeroValue295
 t77:=Tryz.underlying296
 a77:=Tryz.isAgg296
 z77:=Tryz.sizeOf296
 v77:=Tryz.zeroValue296
open Go.RowKit
theorem bx169:Builder.Extra Tryz.prog sl169_ren where
 sizeBuilder:=by kernel_rfl
 liesBuilder:=by kernel_rfl
 t5:=Tryz.underlying5
 a5:=Tryz.isAgg5
 z5:=Tryz.sizeOf5
 v5:=Tryz.zeroValue5
 infoByte:=by kernel_rfl
 cellsByte:=by kernel_rfl
 sizeByte:=by kernel_rfl
 neB5:=by decide
theorem b_string (B b:Nat) (l:List UInt8) (w:World) (h:Lib.IsBuilderF 165 5 B b (Lib.byteCells l) w) (hBw:B≤w.heap.size):
  Calls Tryz.prog 95 #[.pointer (some ⟨b,0,none⟩)] w fun e w'=>e = .returned (.string ⟨l.toArray⟩)∧(Lib.IsBuilderF 165 5 B b (Lib.byteCells l) w'∧Below B w w'∧Lib.OthersKept 5 (some b) w w'):=Any.Builder_String_any_k sl169 bx169 B b l w h hBw
theorem b_itoa (n:Int) (h0:-9223372036854775808≤n) (h1:n≤9223372036854775807) (w:World) (htab:Lib.TabIs Tryz.prog w "internal/strconv.uint64pow10" .u64 Lib.pow10Tab):
  Calls Tryz.prog 64 #[.int .i64 n] w fun e w'=>e = .returned (.string ⟨(Lib.itoa n).toArray⟩)∧∃k os,w'=Sort.grow (w.drewN k) os:=Any.strconv_Itoa sl171 n h0 h1 w htab
set_option maxHeartbeats 1000000 in
set_option maxRecDepth 100000 in
theorem b_used (b:Nat) (w:World) (h0:w.cell? ⟨b,0,none⟩=some (.pointer (some ⟨b,0,none⟩))):
  Calls Tryz.prog 119 #[.pointer (some ⟨b,0,none⟩)] w fun e w'=>e = .returned (.tuple #[])∧w'=w:=by
 obtain ⟨j,hj,_⟩:=Option.map_eq_some_iff.1 bx169.sizeBuilder
 go_enter Tryz.func119,Tryz.ntmps119
 go_wp2
 rw [Lib.run_neq_ptr_same w _ Tryz.underlying163 hj]
 go_wp2
 go_end0
 exact ⟨rfl,rfl⟩
set_option maxHeartbeats 1000000 in
set_option maxRecDepth 100000 in
theorem b_fresh (b:Nat) (w:World) (h0:w.cell? ⟨b,0,none⟩=some (.pointer none)) (hsh:w.shape? b=some (165,2)) (hfz:w.frozen? ⟨b,0,none⟩=false):
  Calls Tryz.prog 119 #[.pointer (some ⟨b,0,none⟩)] w fun e w'=>e = .returned (.tuple #[])∧w'=w.setCell ⟨b,0,none⟩ (.pointer (some ⟨b,0,none⟩)):=by
 obtain ⟨j,hj,hjs⟩:=Option.map_eq_some_iff.1 bx169.sizeBuilder
 go_enter Tryz.func119,Tryz.ntmps119
 go_wp2
 rw [Lib.run_to_unsafe w ⟨b,0,none⟩ Tryz.underlying163 Tryz.underlying243 hj (by rw [hjs];decide) hsh (Nat.zero_lt_succ 1)];simp only [Result.andThen];rw [Oper.upon_value]
 go_wp2
 rw [run_callFunc_extern Tryz.func150 (by kernel_rfl) (by kernel_rfl) (by kernel_rfl) (e:=Extern.AbiNoEscape.same) (by kernel_rfl)];rw [Lib.run_noEscape];simp only [Result.andThen];rw [Oper.upon_value]
 go_wp2
 rw [Lib.run_from_unsafe w ⟨b,0,none⟩ Tryz.underlying243 Tryz.underlying163 hj hsh bx169.liesBuilder];simp only [Result.andThen];rw [Oper.upon_value]
 go_wp2
 go_end0
 exact ⟨rfl,rfl⟩
theorem b_check (B b:Nat) (bs:List Value) (w:World) (h:Lib.IsBuilderF 165 5 B b bs w):
  Calls Tryz.prog 119 #[.pointer (some ⟨b,0,none⟩)] w fun e w'=>e = .returned (.tuple #[])∧(Lib.BuilderAtF 165 5 B b (.pointer (some ⟨b,0,none⟩)) bs w'∧Below B w w'∧Lib.OthersKept 5 (some b) w w'):=by
 rcases h with h | h
 ·refine (b_fresh b w h.cell0 h.shape h.frozen0).mono ?_;rintro e w' ⟨rfl,rfl⟩;exact ⟨rfl,h.used _,(Below.refl B w).setCell (p:=⟨b,0,none⟩) h.1 _,(Lib.OthersKept.refl _ _ w).setCell ⟨b,0,none⟩ rfl _⟩
 ·refine (b_used b w h.cell0).mono ?_;rintro e w' ⟨rfl,rfl⟩;exact ⟨rfl,h,Below.refl B _,Lib.OthersKept.refl _ _ _⟩
set_option maxHeartbeats 2000000 in
set_option maxRecDepth 100000 in
theorem b_byte (B b:Nat) (bs:List Value) (c:Int) (w:World) (h:Lib.IsBuilderF 165 5 B b bs w) (hlen:bs.length+1≤140737488355328) (hBw:B≤w.heap.size):
  Calls Tryz.prog 94 #[.pointer (some ⟨b,0,none⟩),.int .u8 c] w fun e w'=>e = .returned .nilIface∧(Lib.BuilderAtF 165 5 B b (.pointer (some ⟨b,0,none⟩)) (bs++[.int .u8 c]) w'∧Below B w w'∧Lib.OthersKept 5 (some b) w w'):=by
 obtain ⟨i0,hi,hz0,hz1,hz2⟩:=info_parts bx169.infoByte
 go_enter Tryz.func94,Tryz.ntmps94
 go_wp2_with (go_at_call 119;refine (b_check B b bs _ h).mono ?_)
 rintro e w1 ⟨rfl,h1,hb1,hk1⟩;obtain ⟨hB,v,hbk,hown,hne⟩:=h1;have c0:w1.cell? ⟨b,0,none⟩=some (.pointer (some ⟨b,0,none⟩)):=by rw [Lib.cell_of_heap hbk];rfl
 have c1:w1.cell? ⟨b,1,none⟩=some v:=by rw [Lib.cell_of_heap hbk];rfl
 go_wp2_with (at_builtin;refine wpList_append_ownF _ rfl _ _ 29 rfl B 5 i0 (.int .u8 0) 1 1 Tryz.underlying29 hi hz0 hz1 hz2 rfl (by decide) _ _ _ rfl (hown.alloc _) ⟨w1.heap.size,0,none⟩ 1 1 [.int .u8 c] rfl rfl ?c1 ?c2 ?c3 ?c4 ?c5 ?_)
 case c1=>
  intro j u hj
  match j,hj with
  | 0,hj=>simp at hj;subst hj;simp [Addr.add]
 case c2=>intro u hu;simp at hu;subst hu;rfl
 case c3=>unfold maxLen;omega
 case c4=>omega
 case c5=>have:=hb1.size;simp;omega
 intro v' w2 hown' hgrow _;have hlt:b<w1.heap.size:=(Array.getElem?_eq_some_iff.1 hbk).1;have hb2:w2.heap[b]?=some (.cells #[.pointer (some ⟨b,0,none⟩),v] 165 (0,0)):=by
  rw [hgrow.block b (by simp;omega) (fun e=>hne e.symm),Lib.alloc_old w1 _ b hlt];exact hbk
 have d0:w2.cell? ⟨b,0,none⟩=some (.pointer (some ⟨b,0,none⟩)):=by rw [Lib.cell_of_heap hb2];rfl
 have d1:w2.cell? ⟨b,1,none⟩=some v:=by rw [Lib.cell_of_heap hb2];rfl
 have f1:w2.frozen? ⟨b,1,none⟩=false:=Lib.frozen_of_heap hb2 1;obtain ⟨g,cap,rfl⟩:∃g cap,v' = .slice (some ⟨g,0,none⟩) (bs.length+1) cap:=by
  rcases hown'.2 with ⟨_,h0⟩ | ⟨g,cap,cur,fz,hv,_⟩
  ·omega
  ·exact ⟨g,cap,hv⟩
 go_wp2
 go_ret
 refine ⟨rfl, ?_, ?_,((hk1.alloc _).grown hgrow (Lib.ownsRowF_kind (hown.alloc _))).setCell ⟨b,1,none⟩ rfl _⟩
 ·exact Lib.BuilderAtF.put (T:=165) (e:=5) hB hb2 (bs':=bs++[.int .u8 c]) (by simpa using hown') (by decide)
 ·exact ((hb1.alloc (by have:=hb1.size;omega) _).grown hgrow (by have:=hb1.size;simp;omega) (fun k hk=>(hown.lt k hk).1)).setCell (p:=⟨b,1,none⟩) hB _
set_option maxHeartbeats 2000000 in
set_option maxRecDepth 100000 in
theorem b_text (B b:Nat) (bs:List Value) (s:ByteArray) (w:World) (h:Lib.IsBuilderF 165 5 B b bs w) (hlen:bs.length+s.size≤140737488355328) (hBw:B≤w.heap.size):
  Calls Tryz.prog 93 #[.pointer (some ⟨b,0,none⟩),.string s] w fun e w'=>e = .returned (.tuple #[.int .i64 s.size,.nilIface])∧(Lib.BuilderAtF 165 5 B b (.pointer (some ⟨b,0,none⟩)) (bs++Lib.strCells s) w'∧Below B w w'∧Lib.OthersKept 5 (some b) w w'):=by
 obtain ⟨i0,hi,hz0,hz1,hz2⟩:=info_parts bx169.infoByte
 go_enter Tryz.func93,Tryz.ntmps93
 go_wp2_with (go_at_call 119;refine (b_check B b bs _ h).mono ?_)
 rintro e w1 ⟨rfl,h1,hb1,hk1⟩;obtain ⟨hB,v,hbk,hown,hne⟩:=h1;have c0:w1.cell? ⟨b,0,none⟩=some (.pointer (some ⟨b,0,none⟩)):=by rw [Lib.cell_of_heap hbk];rfl
 have c1:w1.cell? ⟨b,1,none⟩=some v:=by rw [Lib.cell_of_heap hbk];rfl
 go_wp2_with (at_builtin;refine Lib.wpList_append_own_stringF _ rfl _ _ 29 9 rfl B 5 i0 Tryz.underlying29 Tryz.underlying9 hi hz0 hz1 hz2 _ _ _ rfl hown s rfl ?c3 ?c4 ?c5 ?_)
 case c3=>unfold maxLen;omega
 case c4=>omega
 case c5=>have:=hb1.size;omega
 intro v' w2 hown' hgrow _;have hlt:b<w1.heap.size:=(Array.getElem?_eq_some_iff.1 hbk).1;have hb2:w2.heap[b]?=some (.cells #[.pointer (some ⟨b,0,none⟩),v] 165 (0,0)):=by
  rw [hgrow.block b hlt (fun e=>hne e.symm)];exact hbk
 have d0:w2.cell? ⟨b,0,none⟩=some (.pointer (some ⟨b,0,none⟩)):=by rw [Lib.cell_of_heap hb2];rfl
 have d1:w2.cell? ⟨b,1,none⟩=some v:=by rw [Lib.cell_of_heap hb2];rfl
 have f1:w2.frozen? ⟨b,1,none⟩=false:=Lib.frozen_of_heap hb2 1;obtain ⟨ao,n',cap,rfl⟩:∃ao n' cap,v' = .slice ao n' cap:=by
  rcases hown'.2 with ⟨hv,_⟩ | ⟨g,cap,cur,fz,hv,_⟩
  ·exact ⟨_,_,_,hv⟩
  ·exact ⟨_,_,_,hv⟩
 go_wp2
 go_ret2
 refine ⟨rfl, ?_, ?_,(hk1.grown hgrow (Lib.ownsRowF_kind hown)).setCell ⟨b,1,none⟩ rfl _⟩
 ·exact Lib.BuilderAtF.put (T:=165) (e:=5) hB hb2 (bs':=bs++Lib.strCells s) (by simpa [Lib.strCells_length] using hown') (by decide)
 ·exact (hb1.grown hgrow (by have:=hb1.size;omega) (fun k hk=>(hown.lt k hk).1)).setCell (p:=⟨b,1,none⟩) hB _
theorem zlq (a:Addr) (k:Nat):(a.add k).block=a.block:=by unfold Addr.add;split <;> rfl
def zsq (w:World) (a:Addr) (xs:List SItem):Prop:=a.block<w.heap.size∧∀(i:Nat) (x:SItem),xs[i]?=some x →
 w.cell? (a.add (i*4))=some (.int .i64 x.1)∧w.cell? ⟨(a.add (i*4)).block,(a.add (i*4)).off+1,none⟩=some (.int .i64 x.2.1)∧w.cell? ⟨(a.add (i*4)).block,(a.add (i*4)).off+2,none⟩=some (.int .i64 x.2.2.1)∧w.cell? ⟨(a.add (i*4)).block,(a.add (i*4)).off+3,none⟩=some (.int .i64 x.2.2.2)
theorem zsq.below {w w':World} {a:Addr} {xs:List SItem} (h:zsq w a xs) {B:Nat} (hb:Below B w w') (hB:a.block<B) {i:Nat} {x:SItem} (hx:xs[i]?=some x):
  w'.cell? (a.add (i*4))=some (.int .i64 x.1)∧w'.cell? ⟨(a.add (i*4)).block,(a.add (i*4)).off+1,none⟩=some (.int .i64 x.2.1)∧w'.cell? ⟨(a.add (i*4)).block,(a.add (i*4)).off+2,none⟩=some (.int .i64 x.2.2.1)∧w'.cell? ⟨(a.add (i*4)).block,(a.add (i*4)).off+3,none⟩=some (.int .i64 x.2.2.2):=by
 obtain ⟨h0,h1,h2,h3⟩:=h.2 i x hx;refine ⟨?_, ?_, ?_, ?_⟩
 ·rw [hb.cell (by rw [zlq];exact hB)];exact h0
 ·rw [hb.cell (by show (a.add (i*4)).block<B;rw [zlq];exact hB)];exact h1
 ·rw [hb.cell (by show (a.add (i*4)).block<B;rw [zlq];exact hB)];exact h2
 ·rw [hb.cell (by show (a.add (i*4)).block<B;rw [zlq];exact hB)];exact h3
theorem zsm {B b:Nat} {bs:List Value} {W W':World} (h:Lib.IsBuilderF 165 5 B b bs W) (hb:Below W.heap.size W W'):Lib.IsBuilderF 165 5 B b bs W':=by
 have one:∀p,Lib.BuilderAtF 165 5 B b p bs W→Lib.BuilderAtF 165 5 B b p bs W':=fun p hp=>by
  have hlt:=hp.lt;obtain ⟨hB,v,hv,hown,hne⟩:=hp;exact ⟨hB,v,(hb.block b hlt).trans hv,hown.kept (row:=none) ⟨hb.os,hb.tape,hb.output,hb.size,fun k hk _=>hb.block k hk⟩ (Classical.em _),hne⟩
 exact h.elim (fun x=>.inl (one _ x)) (fun x=>.inr (one _ x))
theorem tab_below {B:Nat} {w w':World} (h:Lib.TabIs Tryz.prog w "internal/strconv.uint64pow10" .u64 Lib.pow10Tab) (hb:Below B w w') (hB:1<B):Lib.TabIs Tryz.prog w' "internal/strconv.uint64pow10" .u64 Lib.pow10Tab:=by
 unfold Lib.TabIs World.var? at *;have hg:Tryz.prog.globalNamed "internal/strconv.uint64pow10"=some 1:=by kernel_rfl
 rw [hg] at h ⊢;simp only [Option.bind_some] at h ⊢;rw [hb.block 1 hB];exact h
theorem alloc2 (w:World) (o1 o2:Obj):((w.alloc o1).alloc o2).heap[w.heap.size+1]?=some o2:=by
 have:=heap_alloc_new (w.alloc o1) o2
 rwa [show (w.alloc o1).heap.size=w.heap.size+1 by simp] at this
theorem keyN_snoc (l:List Int) (z:Int):zlg (l++[z])=zlg l++(Lib.itoa z++[32]):=by simp [zlg]
theorem keyS_snoc (l:List SItem) (x:SItem):keyS (l++[x])=keyS l++zlg (zdo x):=by simp [keyS,zlg,zes]
theorem zr4 {l:List Int} (h:∀z∈l,InR .i64 z):(zlg l).length≤22*l.length:=by
 induction l with
 | nil=>simp [zlg]
 | cons z l ih=>
  have h1:=zjo.1 (h z (by simp));have h2:=Lib.itoa_length_le z h1.1 h1.2;have h3:=ih fun y hy=>h y (by simp [hy]);have e:zlg (z::l)=(Lib.itoa z++[32])++zlg l:=by simp [zlg]
  rw [e];simp only [List.length_append,List.length_cons,List.length_nil];omega
theorem numsS_len (l:List SItem):(zes l).length=4*l.length:=by
 induction l with
 | nil=>rfl
 | cons x l ih=>simp only [zes,List.flatMap_cons,List.length_append] at ih ⊢;rw [ih];simp [zdo];omega
set_option maxHeartbeats 4000000 in
set_option maxRecDepth 1000000 in
theorem key_walk (xs:List SItem) (a:Addr) (cap:Nat) (w:World) (hn:xs.length≤1000) (hz:∀x∈xs,∀z∈zdo x,InR .i64 z) (hc:zsq w a xs) (htab:Lib.TabIs Tryz.prog w "internal/strconv.uint64pow10" .u64 Lib.pow10Tab):
  Calls Tryz.prog 72 #[.slice (some a) xs.length cap] w fun e w'=>e = .returned (.string ⟨(keyS xs).toArray⟩)∧Below w.heap.size w w':=by
 have hpos:1<w.heap.size:=by
  have h:=htab;unfold Lib.TabIs World.var? at h;have hg:Tryz.prog.globalNamed "internal/strconv.uint64pow10"=some 1:=by kernel_rfl
  rw [hg] at h;simp only [Option.bind_some] at h;rcases Nat.lt_or_ge 1 w.heap.size with hh | hh
  ·exact hh
  ·rw [Array.getElem?_eq_none hh] at h;cases h
 have hlen:∀i,(keyS (xs.take i)).length≤88000:=fun i=>by
  have h1:=zr4 (l:=zes (xs.take i)) fun z hzz=>by
   obtain ⟨x,hx,hzx⟩:=List.mem_flatMap.1 hzz;exact hz x (List.mem_of_mem_take hx) z hzx
  have h2:=numsS_len (xs.take i);have h3:(xs.take i).length≤xs.length:=by simp;omega
  show (zlg (zes (xs.take i))).length≤_;omega
 go_enter Tryz.func72,Tryz.ntmps72
 go_wp2
 go_loopw [10] (fun v10 wr=>∃i:Nat,v10 = .int .i64 i∧i≤xs.length∧Lib.IsBuilderF 165 5 w.heap.size w.heap.size (Lib.byteCells (keyS (xs.take i))) wr∧Below w.heap.size w wr) (fun v10 _=>xs.length-(Lib.intOf v10).toNat)
 case atStart=>
  refine ⟨0,rfl,Nat.zero_le _,Lib.IsBuilderF.of (Lib.fresh_isBuilder 165 5 w),(Below.refl _ w).alloc (Nat.le_refl _) _⟩
 case round=>
  obtain ⟨i,rfl,hi,hB,hbw⟩:=hrel;obtain ⟨wo,hwo⟩:∃wo,wo=wr:=⟨wr,rfl⟩;subst hwo
  by_cases hlt:i<xs.length
  ·obtain ⟨x,hx⟩:∃x,xs[i]?=some x:=⟨xs[i],by simp [hlt]⟩;have hxm:x∈xs:=List.mem_of_getElem? hx;obtain ⟨c0,c1,c2,c3⟩:=hc.below hbw hc.1 hx;have hsz:=hbw.size;have hli:=hlen i
   go_wp2
   go_loopw [24] (fun v24 wi=>∃j:Nat,v24 = .int .i64 j∧j≤4∧Lib.IsBuilderF 165 5 w.heap.size w.heap.size (Lib.byteCells (keyS (xs.take i)++zlg ((zdo x).take j))) wi∧wi.heap[wo.heap.size+1]?=some (.cells #[.int .i64 x.1,.int .i64 x.2.1,.int .i64 x.2.2.1,.int .i64 x.2.2.2] 3 (0,0))∧Below w.heap.size w wi) (fun v24 _=>4-(Lib.intOf v24).toNat)
   case atStart=>
    refine ⟨0,rfl,by omega, ?_, ?_, ?_⟩
    ·have:keyS (xs.take i)++zlg ((zdo x).take 0)=keyS (xs.take i):=by simp [zlg]
     rw [this];exact (hB.alloc _).alloc _
    ·exact alloc2 wo _ _
    ·exact (hbw.alloc hsz _).alloc (by simp;omega) _
   case round=>
    obtain ⟨j,rfl,hj,hBi,hgi,hbi⟩:=hrel
    by_cases hjl:j<4
    ·obtain ⟨z,hzj⟩:∃z,(zdo x)[j]?=some z:=⟨(zdo x)[j]'(by simpa [zdo] using hjl),by simp [zdo,hjl]⟩;have hzr:=zjo.1 (hz x hxm z (List.mem_of_getElem? hzj));have hil:=Lib.itoa_length_le z hzr.1 hzr.2;have hll:(keyS (xs.take i)++zlg ((zdo x).take j)).length≤88088:=by
      have h1:=zr4 (l:=(zdo x).take j) fun y hy=>hz x hxm y (List.mem_of_mem_take hy);have h2:((zdo x).take j).length≤4:=by simp [zdo];omega
      rw [List.length_append];omega
     have hcell:wr.cell? ⟨wo.heap.size+1,j,none⟩=some (.int .i64 z):=by
      have e:(#[Value.int .i64 x.1,.int .i64 x.2.1,.int .i64 x.2.2.1,.int .i64 x.2.2.2]:Array Value)[j]?=((zdo x).map (Value.int .i64))[j]?:=by simp [zdo]
      rw [cell_of_row wr (wo.heap.size+1) _ _ 3 (0,0) hgi,e,List.getElem?_map,hzj];rfl
     have hszi:=hbi.size;have htk:keyS (xs.take i)++zlg ((zdo x).take (j+1))=(keyS (xs.take i)++zlg ((zdo x).take j))++(Lib.itoa z++[32]):=by
      rw [List.take_add_one,hzj,Option.toList_some,keyN_snoc,List.append_assoc]
     generalize hK:keyS (xs.take i)++zlg ((zdo x).take j)=K at *
     go_wp2_with (go_at_call 64;refine (b_itoa z hzr.1 hzr.2 _ (tab_below htab hbi hpos)).mono ?_;rintro e w1 ⟨rfl,k,os,rfl⟩;refine Hid.out ?_)
     refine Lib.hid ?_;have hb1:Below wr.heap.size wr (Sort.grow (wr.drewN k) os):=Lib.below_grow _ wr (Nat.le_refl _) k os;generalize Sort.grow (wr.drewN k) os=W1 at *;have hB1:=zsm hBi hb1;have hgl:wo.heap.size+1<wr.heap.size:=(Array.getElem?_eq_some_iff.1 hgi).1;have hg1:=(hb1.block _ hgl).trans hgi;have hbi1:=hbi.trans (hb1.mono hszi);have hsz1:=hbi1.size
     go_wp2_with (go_at_call 93;refine (b_text w.heap.size w.heap.size _ ⟨(Lib.itoa z).toArray⟩ W1 hB1 (by rw [Lib.byteCells_length];show K.length+(Lib.itoa z).toArray.size≤_;simp;omega) hsz1).mono ?_;rintro e w2 ⟨rfl,h2,b2,k2⟩;refine Hid.out ?_)
     refine Lib.hid ?_;have hB2:Lib.IsBuilderF 165 5 w.heap.size w.heap.size (Lib.byteCells (K++Lib.itoa z)) w2:=by rw [Lib.byteCells_append];exact .inr h2
     have hg2:=k2 _ _ hg1 (by simp;omega) (by intro c fz he;cases he);have hsz2:=(hbi1.trans b2).size
     go_wp2_with (go_at_call 94;refine (b_byte w.heap.size w.heap.size _ 32 w2 hB2 (by rw [Lib.byteCells_length,List.length_append];omega) hsz2).mono ?_;rintro e w3 ⟨rfl,h3,b3,k3⟩;refine Hid.out ?_)
     refine Lib.hid ?_;have hB3:Lib.IsBuilderF 165 5 w.heap.size w.heap.size (Lib.byteCells (K++(Lib.itoa z++[32]))) w3:=by
      rw [← List.append_assoc,Lib.byteCells_append];exact .inr h3
     have hg3:=k3 _ _ hg2 (by simp;omega) (by intro c fz he;cases he);have hb3:=(hbi1.trans b2).trans b3
     go_wp2
     go_roundw
     case rel=>exact ⟨j+1,rfl,by omega,by rw [htk];exact hB3,hg3,hb3⟩
     case measure=>simp [Lib.intOf];omega
    ·have hj4:j=4:=by omega
     subst hj4
     go_wp2
     go_roundw
     case rel=>
      refine ⟨i+1,rfl,by omega, ?_,hbi⟩;have e:xs.take (i+1)=xs.take i++[x]:=by rw [List.take_add_one,hx];rfl
      rw [e,keyS_snoc];have e4:(zdo x).take 4=zdo x:=rfl;rw [e4] at hBi;exact hBi
     case measure=>simp [Lib.intOf];omega
  ·have hin:i=xs.length:=by omega
   subst hin
   go_wp2_with (go_at_call 95;refine (b_string w.heap.size w.heap.size _ _ hB hbw.size).mono ?_)
   rintro e W1 ⟨rfl,_,b1,_⟩
   go_wp2
   go_ret
   exact ⟨by simp,hbw.trans b1⟩
set_option maxHeartbeats 4000000 in
set_option maxRecDepth 1000000 in
theorem key_none (ad:Option Addr) (cap:Nat) (w:World):Calls Tryz.prog 72 #[.slice ad 0 cap] w fun e w'=>e = .returned (.string ⟨#[]⟩)∧Below w.heap.size w w':=by
 go_enter Tryz.func72,Tryz.ntmps72
 go_wp2
 go_loopw [10] (fun v10 wr=>v10 = .int .i64 0∧Lib.IsBuilderF 165 5 w.heap.size w.heap.size (Lib.byteCells []) wr∧Below w.heap.size w wr) (fun _ _=>0)
 case atStart=>
  exact ⟨rfl,Lib.IsBuilderF.of (Lib.fresh_isBuilder 165 5 w),(Below.refl _ w).alloc (Nat.le_refl _) _⟩
 case round=>
  obtain ⟨rfl,hB,hbw⟩:=hrel
  go_wp2_with (go_at_call 95;refine (b_string w.heap.size w.heap.size _ _ hB hbw.size).mono ?_)
  rintro e W1 ⟨rfl,_,b1,_⟩
  go_wp2
  go_ret
  exact ⟨rfl,hbw.trans b1⟩
theorem items_at {w:World} {S:Nat→Prop} {v:Value} {xs:List SItem} (h:SlV En.SItem w S v xs) (hS:∀b,S b→b<w.heap.size) (hne:xs≠[]):∃a cap,v = .slice (some a) xs.length cap∧zsq w a xs∧∀x∈xs,∀z∈zdo x,InR .i64 z:=by
 obtain ⟨ad,cap,rfl,h1,h2,h3,h4⟩:=h;obtain ⟨b,off,css,rfl,hb,hE,hc⟩:=h4 hne;have key:∀(i:Nat) (x:SItem),xs[i]?=some x→∃p q r t:Int,x=(p,q,r,t)∧InR .i64 p∧InR .i64 q∧InR .i64 r∧InR .i64 t∧css[i]?=some [.int .i64 p,.int .i64 q,.int .i64 r,.int .i64 t]:=by
  intro i x hx;have hlt:i<xs.length:=(List.getElem?_eq_some_iff.1 hx).1;obtain ⟨cs,hcs⟩:∃cs,css[i]?=some cs:=⟨css[i]'(by rw [hE.1];exact hlt),by simp⟩;obtain ⟨c0,r0,rfl,⟨rfl,i0⟩,c1,r1,rfl,⟨rfl,i1⟩,c2,c3,rfl,⟨rfl,i2⟩,⟨rfl,i3⟩⟩:=hE.2 i cs x hcs hx;exact ⟨_,_,_,_,rfl,i0,i1,i2,i3,hcs⟩
 refine ⟨⟨b,off,none⟩,cap,rfl,⟨hS b hb,fun i x hx=>?_⟩,fun x hx z hz=>?_⟩
 ·obtain ⟨p,q,r,t,rfl,_,_,_,_,hcs⟩:=key i x hx;have hf:=fun (j:Nat) (u:Value) (hu:[Value.int .i64 p,.int .i64 q,.int .i64 r,.int .i64 t][j]?=some u)=>hc _ u (zlj hE.lens hcs hu);have hsz:En.SItem.sz=4:=rfl;rw [hsz] at hf;rw [zfr];refine ⟨hf 0 _ rfl, ?_, ?_, ?_⟩
  ·have:=hf 1 _ rfl;rw [← Nat.add_assoc] at this;exact this
  ·have:=hf 2 _ rfl;rw [← Nat.add_assoc] at this;exact this
  ·have:=hf 3 _ rfl;rw [← Nat.add_assoc] at this;exact this
 ·obtain ⟨i,hi⟩:=List.getElem?_of_mem hx;obtain ⟨p,q,r,t,rfl,i0,i1,i2,i3,_⟩:=key i x hi;simp only [zdo,List.mem_cons,List.not_mem_nil,or_false] at hz;rcases hz with rfl | rfl | rfl | rfl <;> assumption
theorem zr3 {l:List SItem} (h:∀x∈l,∀z∈zdo x,InR .i64 z):(keyS l).length≤88*l.length:=by
 have h1:=zr4 (l:=zes l) fun z hzz=>by
  obtain ⟨x,hx,hzx⟩:=List.mem_flatMap.1 hzz;exact h x hx z hzx
 have h2:=numsS_len l;show (zlg (zes l)).length≤_;omega
theorem zgz {s_:(List SItem)} {r_:Str} (h:zj7 s_ r_):Fn Tryz.prog 72 [(Pd.rep (En.slice En.SItem) s_)] (Rq (Pd.rep En.str r_)):=by
 obtain ⟨hn,rfl⟩:=h;refine ⟨ze1 Tryz.func72 rfl (by rfl),fun s vs hgl hv=>?_⟩
 match vs,hv with
 | [v],⟨hv,_⟩=>
  have hsl:=zbx.1 hv;have fin:∀(x:Str) (w':World),x.length≤9223372036854775807→Below s.w.heap.size s.w w'→∃(v:Value) (s':St),Ending.returned (.string ⟨x.toArray⟩) = .returned v∧s'.w=w'∧Ex s s'∧Rq (Pd.rep En.str x) s s' v:=fun x w' hx hb=>
   ⟨_,⟨w',s.X,fun b hb'=>Nat.lt_of_lt_of_le (s.lt b hb') hb.size⟩,rfl,rfl,⟨⟨DR.kit,hb.os,hb.tape,hb.output,hb.size,fun b hb' _=>hb.block b hb',fun _ h=>h.elim,fun b h=>.inl h⟩,fun b h=>h⟩,zif.2 ⟨rfl,hx⟩⟩
  by_cases hne:s_=[]
  ·subst hne;obtain ⟨ad,cap,rfl,_⟩:=hsl;refine (key_none ad cap s.w).mono fun e w' ⟨he,hb⟩=>?_;subst he;exact fin [] w' (by simp) hb
  ·obtain ⟨a,cap,rfl,hat,hz⟩:=items_at hsl (fun b hb=>hb.1) hne;have htab:Lib.TabIs Tryz.prog s.w "internal/strconv.uint64pow10" .u64 Lib.pow10Tab:=by
    obtain ⟨_,t,fr,h2⟩:=hgl.1 _ (by unfold gtab;exact List.mem_cons_self);unfold Lib.TabIs World.var?;have hg:Tryz.prog.globalNamed "internal/strconv.uint64pow10"=some 1:=by kernel_rfl
    rw [hg];simp only [Option.bind_some];rw [h2];simp [Lib.pow10Tab]
   have hl:=zr3 hz;refine (key_walk s_ a cap s.w hn hz hat htab).mono fun e w' ⟨he,hb⟩=>?_;subst he;exact fin _ w' (by omega) hb
end Go.Proofs.YtjdaaiodniicoaaGreatDoor.V
namespace Go.Proofs.YtjdaaiodniicoaaGreatDoor.V
open Go
set_option linter.unusedVariables false
def Pd.zr (N te sz g len:Nat):Pd:=
 ⟨fun s v=>N≤g∧s.X g∧∃cap cur,v = .slice (some ⟨g,0,none⟩) len cap∧s.w.heap[g]?=some (.cells cur te (0,0))∧cur.size=cap*sz∧cap≤maxLen∧len≤cap,fun b=>some g=some b,
  fun {T s s' v} h hb ⟨h1,h2,cap,cur,h3,h4,h5⟩=>⟨h1,(hb g rfl).2 h2,cap,cur,h3,by rw [h.blk g (Array.getElem?_eq_some_iff.1 h4).1 (hb g rfl).1];exact h4,h5⟩⟩
section
variable {P : Program} {ops : Array Oper} {o : Oper} {L : Lst} {α : Type} {E : En α} {xs : List α}
theorem t_capn {y:Operand} {t te:TypeId} (hy:Opn L y (Pd.rep (En.nilv E) xs)) (ht:P.underlying t=some (.slice te)) (ho:o.op = .call { callee:=.builtin .cap,args:=#[y],argTypes:=#[t] }) (hg:o.guard=none):T P ops o L (Pd.rep (En.int .i64) 0):=
 T.pure hg fun M n s0 ac s hL=>by
  have hv:=(zg7.1 (hy M n s0 ac s hL)).1;refine ⟨.int .i64 0, ?_,zbf.2 ⟨rfl,by decide⟩⟩;unfold execOp;rw [ho];simp [resolve,invoke,builtin,hv,Builtin.cap_,run_underlying ht,goInt]
theorem t_lenn {y:Operand} {t te:TypeId} (hy:Opn L y (Pd.rep (En.nilv E) xs)) (ht:P.underlying t=some (.slice te)) (ho:o.op = .call { callee:=.builtin .len,args:=#[y],argTypes:=#[t] }) (hg:o.guard=none):T P ops o L (Pd.rep (En.int .i64) 0):=
 T.pure hg fun M n s0 ac s hL=>by
  have hv:=(zg7.1 (hy M n s0 ac s hL)).1;refine ⟨.int .i64 0, ?_,zbf.2 ⟨rfl,by decide⟩⟩;unfold execOp;rw [ho];simp [resolve,invoke,builtin,hv,Builtin.len_,run_underlying ht,goInt]
theorem t_to0 {y z:Operand} {t te:TypeId} (hy:Opn L y (Pd.rep (En.nilv E) xs)) (hz:Opn L z (Pd.rep (En.int .i64) 0)) (ht:P.underlying t=some (.slice te)) (hE:Ty P te E) (ho:o.op = .slice t y none (some z) none) (hg:o.guard=none):T P ops o L (Pd.rep (En.nilv E) xs):=
 T.pure hg fun M n s0 ac s hL=>by
  obtain ⟨hv,hxs⟩:=zg7.1 (hy M n s0 ac s hL);have hzv:=(zbf.1 (hz M n s0 ac s hL)).1;refine ⟨.slice none 0 0, ?_,zg7.2 ⟨rfl,hxs⟩⟩;unfold execOp;rw [ho];simp [hv,hzv,Instr.sliceAt,run_underlying ht,Instr.slice,Instr.sliceBounds,Instr.sliceBound,asIntOf,zbw hE]
theorem st_zeros {Q:Exit→Act→World→Prop} {rest:List Oper} {M:Nat→Prop} {n:Nat} {s0:St} {a:Act} {s:St} {t u te:TypeId} {x y:Operand} {k:Int} (d:Nat) (hL:Has M n s0 a s L) (hx:Opn L x (Pd.rep (En.nilv E) xs)) (hy:Opn L y (Pd.rep (En.int .i64) k)) (hk0:0<k) (hk1:k≤2147483648)
  (ht:P.underlying t=some (.slice te)) (hu:P.underlying u=some (.int .i64)) (hE:Ty P te E) (ho:o.op = .call { callee:=.builtin .append,args:=#[x,y],argTypes:=#[t,u] }) (hg:o.guard=none) (hd:o.dst=some d) (hn:Nat.blt d n=true)
  (kk:∀a' s' g,Has M n s0 a' s' ((d,Pd.zr s0.w.heap.size te E.sz g k.toNat)::L)→wpList P ops Q rest a' s'.w):wpList P ops Q (o::rest) a s.w:=by
 obtain ⟨hv,_⟩:=zg7.1 (hx M n s0 a s hL);have hkv:=(zbf.1 (hy M n s0 a s hL)).1;obtain ⟨i,z,hi,hsz,hz,hzs,hby⟩:=hE.info;obtain ⟨j,rfl⟩:∃j:Nat,k=(j:Int):=⟨k.toNat,by omega⟩;have hj:0<j:=by omega
 have hcap:j≤grownCap s.w j 0 te:=grownCap_ge _ _ _ _;have hr:(execOp a.eval o).run P s.w = .ok (.value (.slice (some ⟨s.w.heap.size,0,none⟩) j (grownCap s.w j 0 te))) (s.w.drew.alloc (.cells (Builtin.zeroCells z.cells j++Builtin.zeroCells z.cells (grownCap s.w j 0 te-j)) te)):=by
  unfold execOp;rw [ho];have h0:¬ ((j:Int)<0):=by omega
  have hw:IntKind.wrap .i64 (j:Int)=j:=zi4 (zjo.2 ⟨by omega,by omega⟩);have hb:j*i.bytes≤140737488355328:=by
   have:=Nat.mul_le_mul (show j≤2147483648 by omega) hby;omega
  have hb2:¬ ((281474976710656:Int)<(j:Int)*(i.bytes:Int)):=by
   rw [← Int.natCast_mul];omega
  have h48:¬ (281474976710656<Builtin.nextslicecap j 0*i.bytes):=by rw [nextslicecap_zero hj];omega
  have h63:¬ (9223372036854775807<(j:Int)):=by omega
  have hjn:¬ j=0:=by omega
  have hs0:¬ (j*E.sz=0):=by have:=Nat.mul_pos hj E.pos;omega
  simp [resolve,invoke,builtin,hv,hkv,Builtin.append_,run_underlying ht,run_underlying hu,sizeOf,typeInfo,zeroValue,hi,hz,asInt,asIntOf,h0,hw,hjn,hb2,h48,h63,hs0,hsz,Question.forced,newRow,grownCap,run_firstCells_none]
 refine wpList_plain hg fun K hK=>?_;unfold Oper.wp;rw [hr];refine hK _ _ ?_;simp only [hd];have e:Ex s ⟨(s.w.drew.alloc (.cells (Builtin.zeroCells z.cells j++Builtin.zeroCells z.cells (grownCap s.w j 0 te-j)) te)),fun b=>s.X b∨b=s.w.heap.size,fun b hb=>hb.elim (fun h=>Nat.lt_of_lt_of_le (s.lt b h) (by simp)) (fun h=>by subst h;simp)⟩:=
  ⟨⟨DR.succ rfl,rfl,rfl,rfl,by simp,fun b hb _=>Go.RowKit.Below.heap_alloc s.w.drew _ b hb,fun _ h=>h.elim,fun b hb=>hb.imp id (fun h=>Nat.le_of_eq h.symm)⟩,fun b hb=>.inl hb⟩
 refine kk _ _ s.w.heap.size (hL.put e hn ⟨hL.ent.mv.size,.inr rfl,grownCap s.w j 0 te,_,rfl,heap_alloc_new s.w.drew _, ?_,grownCap_le_maxLen _ _ _ _ (by unfold maxLen;omega),hcap⟩);simp only [Array.size_append,size_zeroCells,hzs];rw [← Nat.add_mul]
 congr 1
 omega
theorem t_row0 {t te:TypeId} {x z:Operand} {N g len:Nat} (hx:Opn L x (Pd.zr N te E.sz g len)) (hz:Opn L z (Pd.rep (En.int .i64) 0)) (ht:P.underlying t=some (.slice te)) (hE:Ty P te E) (ho:o.op = .slice t x none (some z) none) (hg:o.guard=none):T P ops o L (Pd.row E N te (some g) []):=
 T.pure hg fun M n s0 a s hL=>by
  obtain ⟨hN,hX,cap,cur,hv,hgb,hcs,hcm,hlc⟩:=hx M n s0 a s hL;have hzv:=(zbf.1 (hz M n s0 a s hL)).1;refine ⟨.slice (some ⟨g,0,none⟩) 0 cap, ?_,rfl,fun b hb=>by cases hb;exact hX,Nat.zero_le _,[],⟨rfl,by simp⟩,by simp,.inr ⟨g,cap,cur,rfl,hN,hgb,Nat.zero_le _,hcm,hcs,by simp⟩⟩;unfold execOp;rw [ho];simp [hv,hzv,Instr.sliceAt,run_underlying ht,Instr.slice,Instr.sliceBounds,Instr.sliceBound,asIntOf,zbw hE,Addr.add]
end
set_option maxRecDepth 100000
theorem zfc {x_:List SItem} {n_:Int} {r_:List SItem} (h:zdz x_ n_ r_):Fn Tryz.prog 177 [(Pd.rep (En.nilv En.SItem) x_),(Pd.rep (En.int .i64) n_)] (Ro En.SItem 126 r_):=by
 obtain ⟨h0,h1,rfl⟩:=h;refine zbn Tryz.func177 rfl Tryz.ntmps177 (by rfl) (by simp) fun s0 a hL=>?_;refine wp_seq_k fun K1 hK1=>?_;refine rg ?_;refine st 4 (zp (q:=Pd.any) (fun _ _ _ _ _ _=>trivial) rfl rfl) rfl rfl hL fun a s e_ hL=>?_;refine en' ?_;show K1 a s.w;refine hK1 _ _ ?_;refine wp_seq_k fun K2 hK2=>?_;refine wp_seq_k fun K3 hK3=>?_;refine rg ?_;refine st 5 (zj (o_t 1 rfl) rfl rfl) rfl rfl hL fun a s e_ hL=>?_;refine st 6 (zi1 (o_t 5 rfl) (o_i (by decide)) rfl rfl) rfl rfl hL fun a s e_ hL=>?_;refine en' ?_;show K3 a s.w;refine hK3 _ _ ?_;refine cnd hL rfl (fun hb_=>absurd hb_ (by simp;omega)) (fun _=>?_);refine wp_skip ?_;show K2 a s.w;refine hK2 _ _ ?_;refine wp_seq_k fun K4 hK4=>?_;refine wp_seq_k fun K5 hK5=>?_;refine rg ?_;refine st 8 (zj (o_t 1 rfl) rfl rfl) rfl rfl hL fun a s e_ hL=>?_;refine st 9 (zj (o_t 0 rfl) rfl rfl) rfl rfl hL fun a s e_ hL=>?_;refine st 10 (t_capn (o_t 9 rfl) Tryz.underlying77 rfl rfl) rfl rfl hL fun a s e_ hL=>?_;refine st 11 (zj (o_t 0 rfl) rfl rfl) rfl rfl hL fun a s e_ hL=>?_;refine st 12 (t_lenn (o_t 11 rfl) Tryz.underlying77 rfl rfl) rfl rfl hL fun a s e_ hL=>?_;refine st 13 (zlw (o_t 10 rfl) (o_t 12 rfl) (by decide) rfl rfl) rfl rfl hL fun a s e_ hL=>?_;refine st 14 (zlw (o_t 8 rfl) (o_t 13 rfl) (zjo.2 ⟨by omega,by omega⟩) rfl rfl) rfl rfl hL fun a s e_ hL=>?_;refine st 1 (zp (o_t 14 rfl) rfl rfl) rfl rfl hL fun a s e_ hL=>?_;refine en' ?_;show K5 a s.w;refine hK5 _ _ ?_;refine wp_seq_k fun K6 hK6=>?_;refine rg ?_;refine st 15 (zj (o_t 1 rfl) rfl rfl) rfl rfl hL fun a s e_ hL=>?_
 refine st 16 (t_gtr (o_t 15 rfl) (o_i (by decide)) rfl rfl) rfl rfl hL fun a s e_ hL=>?_;refine en' ?_;show K6 a s.w;refine hK6 _ _ ?_;have fin:∀(a:Act) (s:St) (L:Lst) (og:Option Nat),Has N0 27 s0 a s L→lk L 0=some (Pd.row En.SItem s0.w.heap.size 126 og [])→K4 a s.w:=fun a s L og hL h0=>by
  refine hK4 _ _ ?_;refine wp_seq_k fun K7 hK7=>?_;refine rg ?_;refine st 26 (zj (o_t 0 h0) rfl rfl) rfl rfl hL fun a s e_ hL=>?_;refine st 4 (zp (o_t 26 rfl) rfl rfl) rfl rfl hL fun a s e_ hL=>?_;refine en' ?_;show K7 a s.w;refine hK7 _ _ ?_;exact wp_ret (zf3 rfl hL rfl)
 refine cnd hL rfl (fun hb_=>?_) (fun hb_=>?_)
 ·have hpos:0<n_-(0-0):=by simpa using hb_
  refine rg ?_;refine st 17 (zj (o_t 0 rfl) rfl rfl) rfl rfl hL fun a s e_ hL=>?_;refine st 18 (zj (o_t 0 rfl) rfl rfl) rfl rfl hL fun a s e_ hL=>?_;refine st 19 (t_capn (o_t 18 rfl) Tryz.underlying77 rfl rfl) rfl rfl hL fun a s e_ hL=>?_;refine st 20 (t_to0 (o_t 17 rfl) (o_t 19 rfl) Tryz.underlying77 zi0 rfl rfl) rfl rfl hL fun a s e_ hL=>?_;refine st 21 (zj (o_t 1 rfl) rfl rfl) rfl rfl hL fun a s e_ hL=>?_;refine st_zeros 22 hL (o_t 20 rfl) (o_t 21 rfl) hpos (by omega) Tryz.underlying77 Tryz.underlying3 zi0 rfl rfl rfl rfl fun a s g hL=>?_;refine st 23 (zj (o_t 0 rfl) rfl rfl) rfl rfl hL fun a s e_ hL=>?_;refine st 24 (t_lenn (o_t 23 rfl) Tryz.underlying77 rfl rfl) rfl rfl hL fun a s e_ hL=>?_;refine st 25 (t_row0 (o_t 22 rfl) (o_t 24 rfl) Tryz.underlying77 zi0 rfl rfl) rfl rfl hL fun a s e_ hL=>?_;refine st 0 (zp (o_t 25 rfl) rfl rfl) rfl rfl hL fun a s e_ hL=>?_;refine en' ?_;exact fin a s _ (some g) hL rfl
 ·refine wp_skip ?_;have hv:=(zg7.1 (hL.get 0 rfl)).1;have hx:=(zg7.1 (hL.get 0 rfl)).2;have hL2:=hL.cons 0 (q:=Pd.row En.SItem s0.w.heap.size 126 none []) (by rw [hv];exact own_nil _ _ _ _);exact fin a s _ none hL2 rfl
end Go.Proofs.YtjdaaiodniicoaaGreatDoor.V
namespace Go.Proofs.YtjdaaiodniicoaaGreatDoor.V
open Go
set_option linter.unusedVariables false
set_option maxRecDepth 100000
set_option maxHeartbeats 2000000
set_option synthInstance.maxSize 100000
set_option synthInstance.maxHeartbeats 200000
theorem zde {slices_:(List (List SItem))} {r_:(List SItem)} (h:zh slices_ r_):Fn Tryz.prog 132 [(Pd.rep (En.slice (En.slice En.SItem)) slices_)] (Ro En.SItem 126 r_):=by
 unfold zh at h;refine zbn Tryz.func132 J Tryz.ntmps132 (by rfl) (by simp) fun s0 a L=>?_;refine rs (sno En.SItem 126 L fun a s L=>?_);refine es (rA 1 L fun a s L=>?_);refine wp_seq_k fun K1 H1=>rA 3 L fun a s L=>?_;refine wp_block ?_;have J3:∀(size2:Int) (a:Act) (s:St),Has N0 36 s0 a s [(0,(Pd.rep (En.slice (En.slice En.SItem)) slices_)),(3,(Pi size2))]→((zh.j2 slices_ r_) size2)→K1 a s.w:=by
  intro size2 a s L h;unfold zh.j2 at h;show K1 a s.w;refine H1 _ _ ?_;obtain ⟨r4,h5,h⟩:=h;refine rs (sA 1 L fun a s L=>?_);refine zcs 24 L (zfc h5) opz J J J J fun a s og6 hg_ L=>?_;refine sA 1 L fun a s L=>?_;refine es (wp_seq_k fun K7 H7=>?_);refine rA 3 L fun a s L=>?_;refine wp_block ?_;have J10:∀(newslice8:(List SItem)) (og9:Option Nat) (a:Act) (s:St),Has N0 36 s0 a s [(6,(Pd.row En.SItem s0.w.heap.size 126 og9 newslice8))]→((zh.j1 r_) newslice8)→K7 a s.w:=by
   intro newslice8 og9 a s L h;unfold zh.j1 at h;show K7 a s.w;refine H7 _ _ (rA 2 L fun a s L=>?_);subst h;exact wp_ret (zf3 J L J)
  obtain ⟨k14,h⟩:=h;refine lpn (fun k15 a s=>∃(newslice11:(List SItem)) (v13:Int) (og12:Option Nat),Has N0 36 s0 a s [(6,(Pd.row En.SItem s0.w.heap.size 126 og12 newslice11)),(25,(Pd.rep (En.slice (En.slice En.SItem)) slices_)),(26,(Pi (slices_.length:Int))),(27,(Pi v13))]∧zh.l1 slices_ (zh.j1 r_) k15 newslice11 v13) k14 ⟨r4,0,og6,L.kk,h⟩ ?_;rintro k15 a s ⟨newslice11,v13,og12,L,h⟩ KL16 hKL16;unfold zh.l1 at h;refine rA 1 L fun a s L=>?_;refine wp_seq_k fun K17 H17=>cn L h (fun h=>?_) fun h=>?_
  ·refine wp_skip (H17 _ _ ?_);refine wp_seq_k fun K18 H18=>wp_block ?_;obtain ⟨e19,h20,h⟩:=h;refine ra 3 (p1 h20) L fun a s L=>?_;obtain ⟨h21,h⟩:=h;refine rg (sA 2 L fun a s L=>?_);refine zdx 33 L op op Ud.h Tq.h h21 J J J J ka fun a s og22 hg_ L=>?_;refine sA 1 L fun a s L=>?_;refine en' (H18 _ _ ?_);obtain ⟨h23,h⟩:=h;refine rg (sA 2 L fun a s L=>?_);refine en' ?_;exact hKL16 a s ⟨(newslice11++e19),(v13+1),og22,L.kk,h⟩
  ·refine wp_exit ?_;exact J10 newslice11 og12 a s (L.kk) h
 obtain ⟨k26,h⟩:=h;refine lpn (fun k27 a s=>∃(size24:Int) (v25:Int),Has N0 36 s0 a s [(0,(Pd.rep (En.slice (En.slice En.SItem)) slices_)),(3,(Pi size24)),(9,(Pd.rep (En.slice (En.slice En.SItem)) slices_)),(10,(Pi (slices_.length:Int))),(11,(Pi v25))]∧zh.l2 slices_ (zh.j2 slices_ r_) k27 size24 v25) k26 ⟨0,0,L.kk,h⟩ ?_;rintro k27 a s ⟨size24,v25,L,h⟩ KL28 hKL28;unfold zh.l2 at h;refine rA 1 L fun a s L=>?_;refine wp_seq_k fun K29 H29=>cn L h (fun h=>?_) fun h=>?_
 ·refine wp_skip (H29 _ _ ?_);refine wp_seq_k fun K30 H30=>wp_block ?_;obtain ⟨e31,h32,h⟩:=h;refine ra 3 (p1 h32) L fun a s L=>?_;obtain ⟨h33,h⟩:=h;refine rA 5 L fun a s L=>?_;refine rA 2 L fun a s L=>?_;refine cn L h (fun h=>?_) fun h=>?_
  ·exact h.elim
  ·refine wp_skip (H30 _ _ ?_);obtain ⟨h34,h⟩:=h;refine rg (sA 2 L fun a s L=>?_);refine en' ?_;exact hKL28 a s ⟨(size24+(e31.length:Int)),(v25+1),L.kk,h⟩
 ·refine wp_exit ?_;exact J3 size24 a s (L.kk) h
theorem zdh {s_:(List SItem)} {r_:(List SItem)} (h:zb1 s_ r_):Fn Tryz.prog 161 [(Pd.rep (En.slice En.SItem) s_)] (Ro En.SItem 126 r_):=by
 unfold zb1 at h;refine zbn Tryz.func161 J Tryz.ntmps161 (by rfl) (by simp) fun s0 a L=>?_;refine rs (sno En.SItem 126 L fun a s L=>?_);refine es (wp_seq_k fun K1 H1=>?_);refine rs (sA 1 L fun a s L=>?_);refine sv (t_isnil op Ud.h J J) L fun a s L=>?_;obtain ⟨b2,h3,L⟩:=L.nilq 4 rfl;replace h:=h b2 h3;refine es (cn L h (fun h=>?_) fun h=>?_)
 ·refine rs ?_;refine sno En.SItem 126 L fun a s L=>?_;refine es ?_;subst h;exact wp_ret (zf3 J L J)
 ·refine wp_skip (H1 _ _ ?_);obtain ⟨h5,h⟩:=h;refine rs (st_new En.SItem 5 L Ud.h Tq.h J J J J fun a s g4 hg_ L=>?_);refine sA 1 L fun a s L=>?_;refine zdx 7 L op op Ud.h Tq.h h5 J J J J ka fun a s og6 hg_ L=>?_;refine sA 1 L fun a s L=>?_;refine es ?_;subst h;exact wp_ret (zf3 J L J)
theorem zcv (v0:Value) {data_:(List Cl)} {a_:Int} {b_:Int} {cmp_:(Cl × Cl × Int→Prop)} {r_:(List Cl)} (h:zd data_ a_ b_ cmp_ r_):Fm Tryz.prog 215 (fun b=>v0.ownBlock=some b) [(Pd.prow En.cls 40 v0 data_),(Pi a_),(Pi b_),(Pd.rep EnF268 cmp_)] (fun _ s' _=>(Pd.prow En.cls 40 v0 r_).p s' v0):=by
 unfold zd at h;refine fm_of Tryz.func215 J Tryz.ntmps215 (by rfl) (by simp) fun s0 a L=>?_;obtain ⟨h1,h⟩:=h;refine rA 3 L fun a s L=>?_;refine wp_block ?_;have J3:∀(data2:(List Cl)) (a:Act) (s:St),Has (fun b=>v0.ownBlock=some b) 53 s0 a s [(0,(Pd.prow En.cls 40 v0 data2))]→((zd.j1 r_) data2)→(bodyPost Tryz.prog Tryz.f215 (Pst (fun b=>v0.ownBlock=some b) (fun _ s' _=>(Pd.prow En.cls 40 v0 r_).p s' v0) s0) .normal) a s.w:=by
  intro data2 a s L h;unfold zd.j1 at h;subst h;exact retm J L (c:=0) J
 obtain ⟨k6,h⟩:=h;refine lpn (fun k7 a s=>∃(data4:(List Cl)) (i5:Int),Has (fun b=>v0.ownBlock=some b) 53 s0 a s [(0,(Pd.prow En.cls 40 v0 data4)),(1,(Pi a_)),(2,(Pi b_)),(3,(Pd.rep EnF268 cmp_)),(8,(Pi i5))]∧zd.l1 a_ b_ cmp_ (zd.j1 r_) k7 data4 i5) k6 ⟨data_,(a_+1),L.kk,h⟩ ?_;rintro k7 a s ⟨data4,i5,L,h⟩ KL8 hKL8;unfold zd.l1 at h;refine wp_seq_k fun K9 H9=>rA 3 L fun a s L=>?_;refine cn L h (fun h=>?_) fun h=>?_
 ·refine wp_skip (H9 _ _ ?_);refine wp_seq_k fun K10 H10=>wp_block (rA 2 L fun a s L=>?_);refine wp_block ?_;have J12:∀(data11:(List Cl)) (a:Act) (s:St),Has (fun b=>v0.ownBlock=some b) 53 s0 a s [(0,(Pd.prow En.cls 40 v0 data11)),(1,(Pi a_)),(2,(Pi b_)),(3,(Pd.rep EnF268 cmp_)),(8,(Pi i5))]→((zd.j2 (zd.l1 a_ b_ cmp_ (zd.j1 r_) k7) i5) data11)→K10 a s.w:=by
   intro data11 a s L h;unfold zd.j2 at h;show K10 a s.w;refine H10 _ _ ?_;obtain ⟨h13,h⟩:=h;refine rg (sA 3 L fun a s L=>?_);refine en' ?_;exact hKL8 a s ⟨data11,(i5+1),L.kk,h⟩
  obtain ⟨k16,h⟩:=h;refine lpn (fun k17 a s=>∃(data14:(List Cl)) (j15:Int),Has (fun b=>v0.ownBlock=some b) 53 s0 a s [(0,(Pd.prow En.cls 40 v0 data14)),(1,(Pi a_)),(2,(Pi b_)),(3,(Pd.rep EnF268 cmp_)),(8,(Pi i5)),(9,(Pi j15))]∧zd.l2 a_ cmp_ (zd.j2 (zd.l1 a_ b_ cmp_ (zd.j1 r_) k7) i5) k17 data14 j15) k16 ⟨data4,i5,L.kk,h⟩ ?_;rintro k17 a s ⟨data14,j15,L,h⟩ KL18 hKL18;unfold zd.l2 at h;refine wp_seq_k fun K19 H19=>?_;obtain ⟨e20,h21,h22,e23,h24,r25,h26,h⟩:=h;refine wp_seq (rda zck 17 [(Pi j15),(Pi a_),(Pd.rep En.bool (decide (a_<j15))),(Pd.rep En.bool (decide (a_<j15))),(Pd.when ((decide (a_<j15))=true) (Pd.rep EnF268 cmp_)),(Pd.when ((decide (a_<j15))=true) (Pd.prow En.cls 40 v0 data14)),(Pd.when ((decide (a_<j15))=true) (Pi j15)),(Pd.when ((decide (a_<j15))=true) (Pd.optr En.cls 0 v0.ownBlock ((j15:Int).toNat*En.cls.sz) e20)),(Pd.when ((decide (a_<j15))=true) (Pd.rep En.cls e20)),(Pd.when ((decide (a_<j15))=true) (Pd.prow En.cls 40 v0 data14)),(Pd.when ((decide (a_<j15))=true) (Pi j15)),(Pd.when ((decide (a_<j15))=true) (Pi (j15-1))),(Pd.when ((decide (a_<j15))=true) (Pd.optr En.cls 0 v0.ownBlock ((j15-1:Int).toNat*En.cls.sz) e23)),(Pd.when ((decide (a_<j15))=true) (Pd.rep En.cls e23)),(Pd.when ((decide (a_<j15))=true) (Pi r25)),(Pd.when ((decide (a_<j15))=true) (Pd.rep En.bool (decide (r25<0)))),(Pd.rep En.bool ((decide (a_<j15))&&(decide (r25<0))))] L (by kernel_rfl) J J ?_ ?_)
  ·refine zbe.cons (zj (O 9 J) J J) ?_;refine zbe.cons (zj (O 1 J) J J) ?_;refine zbe.cons (t_gtr (O 18 J) (O 19 J) J J) ?_;refine zbe.cons (zj (O 20 J) J J) ?_;refine zbe.cons (zfk J J J (fun hc_=>zj (O 3 J) J J)) ?_;refine zbe.cons (zfk J J J (fun hc_=>zj (O 0 J) J J)) ?_;refine zbe.cons (zfk J J J (fun hc_=>zj (O 9 J) J J)) ?_;refine zbe.cons (zfk J J J (fun hc_=>zea (o_p (o_w hc_ 23 J)) (o_w hc_ 24 J) (h21 hc_) U148 zgk J J)) ?_;refine zbe.cons (zfk J J J (fun hc_=>zcr zgk (o_w hc_ 25 J) J J)) ?_;refine zbe.cons (zfk J J J (fun hc_=>zj (O 0 J) J J)) ?_;refine zbe.cons (zfk J J J (fun hc_=>zj (O 9 J) J J)) ?_;refine zbe.cons (zfk J J J (fun hc_=>zlw (o_w hc_ 28 J) oI (h22 hc_) J J)) ?_;refine zbe.cons (zfk J J J (fun hc_=>zea (o_p (o_w hc_ 27 J)) (o_w hc_ 29 J) (h24 hc_) U148 zgk J J)) ?_;refine zbe.cons (zfk J J J (fun hc_=>zcr zgk (o_w hc_ 30 J) J J)) ?_;refine zbe.cons (zfk J J J (fun hc_=>zgq (q:=(e20,e23,r25)) (o_w hc_ 22 J) (h26 hc_) (xs:=[.tmp 26,.tmp 31]) (.cons (o_w hc_ 26 J) (.cons (o_w hc_ 31 J) .nil)) (fun _ _ _ h_=>h_) J J)) ?_;refine zbe.cons (zfk J J J (fun hc_=>zi1 (o_w hc_ 32 J) oI J J)) ?_;refine zbe.cons (zpm (O 21 J) (fun hc2_=>(o_w hc2_ 33 J)) J J) ?_;exact zbe.nil
  intro a s _ L;replace L:=L.kk (L':=[(0,(Pd.prow En.cls 40 v0 data14)),(1,(Pi a_)),(2,(Pi b_)),(3,(Pd.rep EnF268 cmp_)),(8,(Pi i5)),(9,(Pi j15)),(34,(Pd.rep En.bool ((decide (a_<j15))&&(decide (r25<0)))))]);refine dp ?_;refine es (cn L h (fun h=>?_) fun h=>?_)
  ·refine wp_skip (H19 _ _ ?_);refine wp_seq_k fun K27 H27=>wp_block ?_;obtain ⟨h28,h29,e30,h31,e32,h33,e34,h35,e36,h37,h⟩:=h;refine rdf 18 zck L (by kernel_rfl) fun s _ L=>?_;refine zei 2 39 L (by rfl) (by kernel_rfl) (by kernel_rfl) (by kernel_rfl) (fun _ _ _ _ h=>h) (q:=(Pd.prow En.cls 40 v0 data14)) (ziu (O 0 J) J J) J J fun a L=>?_;refine zei 3 40 L (by rfl) (by kernel_rfl) (by kernel_rfl) (by kernel_rfl) (fun _ _ _ _ h=>h) (q:=(Pi j15)) (ziu (O 9 J) J J) J J fun a L=>?_;refine zei 4 41 L (by rfl) (by kernel_rfl) (by kernel_rfl) (by kernel_rfl) (fun _ _ _ _ h=>h) (q:=(Pi (j15-1))) (y_sub (O 40 J) oI h28 J J) J J fun a L=>?_;refine fl_go 15 [(Pd.prow En.cls 40 v0 data14),(Pi j15),(Pd.prow En.cls 40 v0 data14),(Pi j15),(Pi (j15-1)),(Pd.prow En.cls 40 v0 data14),(Pi j15),(Pi (j15-1)),(Pd.optr En.cls 0 v0.ownBlock ((j15-1:Int).toNat*En.cls.sz) e30),(Pd.rep En.cls e30),(Pd.prow En.cls 40 v0 data14),(Pi j15),(Pd.optr En.cls 0 v0.ownBlock ((j15:Int).toNat*En.cls.sz) e32),(Pd.rep En.cls e32),(Pd.optr En.cls 0 v0.ownBlock ((j15:Int).toNat*En.cls.sz) e34)] [2,3,4] L (by kernel_rfl) (by kernel_rfl) (by kernel_rfl) (.cons (i:=2) J J J J (.cons (i:=3) J J J J (.cons (i:=4) J J J J .nil))) J J ?_ ?_
   ·refine zb9.cons (zj (O 0 J) J J) ?_;refine zb9.cons (zj (O 9 J) J J) ?_;refine zb9.skip J ?_;refine zb9.skip J ?_;refine zb9.skip J ?_;refine zb9.cons (zj (O 0 J) J J) ?_;refine zb9.cons (zj (O 9 J) J J) ?_;refine zb9.cons (zlw (O 43 J) oI h29 J J) ?_;refine zb9.cons (zea (o_p (O 42 J)) (O 44 J) h31 U148 zgk J J) ?_;refine zb9.cons (zcr zgk (O 45 J) J J) ?_;refine zb9.cons (zj (O 0 J) J J) ?_;refine zb9.cons (zj (O 9 J) J J) ?_;refine zb9.cons (zea (o_p (O 47 J)) (O 48 J) h33 U148 zgk J J) ?_;refine zb9.cons (zcr zgk (O 49 J) J J) ?_;refine zb9.cons (zea (o_p (O 37 J)) (O 38 J) h35 U148 zgk J J) ?_;exact zb9.nil
   intro a s _ L;replace L:=L.kk (L':=[(0,(Pd.prow En.cls 40 v0 data14)),(1,(Pi a_)),(2,(Pi b_)),(3,(Pd.rep EnF268 cmp_)),(8,(Pi i5)),(9,(Pi j15)),(39,(Pd.prow En.cls 40 v0 data14)),(41,(Pi (j15-1))),(46,(Pd.rep En.cls e30)),(50,(Pd.rep En.cls e32)),(51,(Pd.optr En.cls 0 v0.ownBlock ((j15:Int).toNat*En.cls.sz) e34))]);refine dp ?_;refine zfs (off:=0) 0 (fun b h=>h) L J h35 op op (zo _ _ _) Tq.h J J J kw fun s L=>?_;refine sl 1 (p1 h37) L fun a s L=>?_;refine zfs (off:=0) 0 (fun b h=>h) L J h37 op op (zo _ _ _) Tq.h J J J kw fun s L=>?_;refine en' (H27 _ _ ?_);obtain ⟨h38,h⟩:=h;refine rg (sA 3 L fun a s L=>?_);refine en' ?_;exact hKL18 a s ⟨((data14.set (j15:Int).toNat e30).set (j15-1:Int).toNat e32),(j15-1),L.kk,h⟩
  ·refine wp_exit ?_;exact J12 data14 a s (L.kk) h
 ·refine wp_exit ?_;exact J3 data4 a s (L.kk) h
theorem zb7 (v0:Value) {data_:(List Cl)} {a_:Int} {b_:Int} {nv_:Int} {cmp_:(Cl × Cl × Int→Prop)} {r_:(List Cl)} (h:zl data_ a_ b_ nv_ cmp_ r_):Fm Tryz.prog 219 (fun b=>v0.ownBlock=some b) [(Pd.prow En.cls 40 v0 data_),(Pi a_),(Pi b_),(Pi nv_),(Pd.rep EnF268 cmp_)] (fun _ s' _=>(Pd.prow En.cls 40 v0 r_).p s' v0):=by
 unfold zl at h;refine fm_of Tryz.func219 J Tryz.ntmps219 (by rfl) (by simp) fun s0 a L=>?_;refine rA 1 L fun a s L=>?_;refine wp_block ?_;have J2:∀(data1:(List Cl)) (a:Act) (s:St),Has (fun b=>v0.ownBlock=some b) 38 s0 a s [(0,(Pd.prow En.cls 40 v0 data1))]→((zl.j1 r_) data1)→(bodyPost Tryz.prog Tryz.f219 (Pst (fun b=>v0.ownBlock=some b) (fun _ s' _=>(Pd.prow En.cls 40 v0 r_).p s' v0) s0) .normal) a s.w:=by
  intro data1 a s L h;unfold zl.j1 at h;subst h;exact retm J L (c:=0) J
 obtain ⟨k5,h⟩:=h;refine lpn (fun k6 a s=>∃(data3:(List Cl)) (i4:Int),Has (fun b=>v0.ownBlock=some b) 38 s0 a s [(0,(Pd.prow En.cls 40 v0 data3)),(1,(Pi a_)),(2,(Pi b_)),(3,(Pi nv_)),(10,(Pi i4))]∧zl.l1 a_ b_ nv_ (zl.j1 r_) k6 data3 i4) k5 ⟨data_,0,L.kk,h⟩ ?_;rintro k6 a s ⟨data3,i4,L,h⟩ KL7 hKL7;unfold zl.l1 at h;refine wp_seq_k fun K8 H8=>rA 3 L fun a s L=>?_;refine cn L h (fun h=>?_) fun h=>?_
 ·refine wp_skip (H8 _ _ ?_);refine wp_seq_k fun K9 H9=>wp_block ?_;obtain ⟨h10,h11,h12,e13,h14,h15,e16,h17,e18,h19,e20,h21,h⟩:=h;refine rdf 24 zck L (by kernel_rfl) fun s _ L=>?_;refine zei 4 20 L (by rfl) (by kernel_rfl) (by kernel_rfl) (by kernel_rfl) (fun _ _ _ _ h=>h) (q:=(Pd.prow En.cls 40 v0 data3)) (ziu (O 0 J) J J) J J fun a L=>?_;refine zei 5 21 L (by rfl) (by kernel_rfl) (by kernel_rfl) (by kernel_rfl) (fun _ _ _ _ h=>h) (q:=(Pi b_)) (ziu (O 2 J) J J) J J fun a L=>?_;refine zei 6 22 L (by rfl) (by kernel_rfl) (by kernel_rfl) (by kernel_rfl) (fun _ _ _ _ h=>h) (q:=(Pi i4)) (ziu (O 10 J) J J) J J fun a L=>?_;refine zei 7 23 L (by rfl) (by kernel_rfl) (by kernel_rfl) (by kernel_rfl) (fun _ _ _ _ h=>h) (q:=(Pi (b_+i4))) (y_add (O 21 J) (O 22 J) h11 J J) J J fun a L=>?_;refine fl_go 21 [(Pd.prow En.cls 40 v0 data3),(Pi a_),(Pi i4),(Pi (a_+i4)),(Pd.prow En.cls 40 v0 data3),(Pi b_),(Pi i4),(Pi (b_+i4)),(Pd.prow En.cls 40 v0 data3),(Pi b_),(Pi i4),(Pi (b_+i4)),(Pd.optr En.cls 0 v0.ownBlock ((b_+i4:Int).toNat*En.cls.sz) e13),(Pd.rep En.cls e13),(Pd.prow En.cls 40 v0 data3),(Pi a_),(Pi i4),(Pi (a_+i4)),(Pd.optr En.cls 0 v0.ownBlock ((a_+i4:Int).toNat*En.cls.sz) e16),(Pd.rep En.cls e16),(Pd.optr En.cls 0 v0.ownBlock ((a_+i4:Int).toNat*En.cls.sz) e18)] [4,5,6,7] L (by kernel_rfl) (by kernel_rfl) (by kernel_rfl) (.cons (i:=4) J J J J (.cons (i:=5) J J J J (.cons (i:=6) J J J J (.cons (i:=7) J J J J .nil)))) J J ?_ ?_
  ·refine zb9.cons (zj (O 0 J) J J) ?_;refine zb9.cons (zj (O 1 J) J J) ?_;refine zb9.cons (zj (O 10 J) J J) ?_;refine zb9.cons (zi6 (O 17 J) (O 18 J) h10 J J) ?_;refine zb9.skip J ?_;refine zb9.skip J ?_;refine zb9.skip J ?_;refine zb9.skip J ?_;refine zb9.cons (zj (O 0 J) J J) ?_;refine zb9.cons (zj (O 2 J) J J) ?_;refine zb9.cons (zj (O 10 J) J J) ?_;refine zb9.cons (zi6 (O 25 J) (O 26 J) h12 J J) ?_;refine zb9.cons (zea (o_p (O 24 J)) (O 27 J) h14 U148 zgk J J) ?_;refine zb9.cons (zcr zgk (O 28 J) J J) ?_;refine zb9.cons (zj (O 0 J) J J) ?_;refine zb9.cons (zj (O 1 J) J J) ?_;refine zb9.cons (zj (O 10 J) J J) ?_;refine zb9.cons (zi6 (O 31 J) (O 32 J) h15 J J) ?_;refine zb9.cons (zea (o_p (O 30 J)) (O 33 J) h17 U148 zgk J J) ?_;refine zb9.cons (zcr zgk (O 34 J) J J) ?_;refine zb9.cons (zea (o_p (O 16 J)) (O 19 J) h19 U148 zgk J J) ?_;exact zb9.nil
  intro a s _ L;replace L:=L.kk (L':=[(0,(Pd.prow En.cls 40 v0 data3)),(1,(Pi a_)),(2,(Pi b_)),(3,(Pi nv_)),(10,(Pi i4)),(20,(Pd.prow En.cls 40 v0 data3)),(23,(Pi (b_+i4))),(29,(Pd.rep En.cls e13)),(35,(Pd.rep En.cls e16)),(36,(Pd.optr En.cls 0 v0.ownBlock ((a_+i4:Int).toNat*En.cls.sz) e18))]);refine dp ?_;refine zfs (off:=0) 0 (fun b h=>h) L J h19 op op (zo _ _ _) Tq.h J J J kw fun s L=>?_;refine sl 1 (p1 h21) L fun a s L=>?_;refine zfs (off:=0) 0 (fun b h=>h) L J h21 op op (zo _ _ _) Tq.h J J J kw fun s L=>?_;refine en' (H9 _ _ ?_);obtain ⟨h22,h⟩:=h;refine rg (sA 3 L fun a s L=>?_);refine en' ?_;exact hKL7 a s ⟨((data3.set (a_+i4:Int).toNat e13).set (b_+i4:Int).toNat e16),(i4+1),L.kk,h⟩
 ·refine wp_exit ?_;exact J2 data3 a s (L.kk) h
theorem zfb (v0:Value) {data_:(List Cl)} {a_:Int} {m_:Int} {b_:Int} {cmp_:(Cl × Cl × Int→Prop)} {r_:(List Cl)} (h:zt data_ a_ m_ b_ cmp_ r_):Fm Tryz.prog 218 (fun b=>v0.ownBlock=some b) [(Pd.prow En.cls 40 v0 data_),(Pi a_),(Pi m_),(Pi b_),(Pd.rep EnF268 cmp_)] (fun _ s' _=>(Pd.prow En.cls 40 v0 r_).p s' v0):=by
 unfold zt at h;refine fm_of Tryz.func218 J Tryz.ntmps218 (by rfl) (by simp) fun s0 a L=>?_;obtain ⟨h1,h⟩:=h;refine rA 4 L fun a s L=>?_;obtain ⟨h2,h⟩:=h;refine rA 4 L fun a s L=>?_;refine wp_seq_k fun K3 H3=>wp_block ?_;have J6:∀(data4:(List Cl)) (i5:Int) (a:Act) (s:St),Has (fun b=>v0.ownBlock=some b) 58 s0 a s [(0,(Pd.prow En.cls 40 v0 data4)),(2,(Pi m_)),(4,(Pd.rep EnF268 cmp_)),(10,(Pi i5))]→((zt.j1 m_ cmp_ r_) data4 i5)→K3 a s.w:=by
  intro data4 i5 a s L h;unfold zt.j1 at h;show K3 a s.w;refine H3 _ _ ?_;obtain ⟨h7,r8,h9,h⟩:=h;refine rg (sA 7 L fun a s L=>?_);refine ze9 57 (fun v0=>zb7 v0 h9) L (fun b h=>h) op opz J J J J kw fun a s L=>?_;refine en' ?_;subst h;exact retm J L (c:=0) J
 obtain ⟨k13,h⟩:=h;refine lpn (fun k14 a s=>∃(data10:(List Cl)) (i11:Int) (j12:Int),Has (fun b=>v0.ownBlock=some b) 58 s0 a s [(0,(Pd.prow En.cls 40 v0 data10)),(2,(Pi m_)),(4,(Pd.rep EnF268 cmp_)),(10,(Pi i11)),(11,(Pi j12))]∧zt.l1 m_ cmp_ (zt.j1 m_ cmp_ r_) k14 data10 i11 j12) k13 ⟨data_,(m_-a_),(b_-m_),L.kk,h⟩ ?_;rintro k14 a s ⟨data10,i11,j12,L,h⟩ KL15 hKL15;unfold zt.l1 at h;refine wp_seq_k fun K16 H16=>rA 3 L fun a s L=>?_;refine cn L h (fun h=>?_) fun h=>?_
 ·refine wp_skip (H16 _ _ ?_);refine wp_block (rA 3 L fun a s L=>?_);refine cn L h (fun h=>?_) fun h=>?_
  ·obtain ⟨h17,r18,h19,h⟩:=h;refine rs (sA 7 L fun a s L=>?_);refine ze9 31 (fun v0=>zb7 v0 h19) L (fun b h=>h) op opz J J J J kw fun a s L=>?_;refine es ?_;obtain ⟨h20,h⟩:=h;refine rg (sA 4 L fun a s L=>?_);refine en' ?_;exact hKL15 a s ⟨r18,(i11-j12),j12,L.kk,h⟩
  ·obtain ⟨h21,h22,h23,r24,h25,h⟩:=h;refine rs (sA 11 L fun a s L=>?_);refine ze9 46 (fun v0=>zb7 v0 h25) L (fun b h=>h) op opz J J J J kw fun a s L=>?_;refine es ?_;obtain ⟨h26,h⟩:=h;refine rg (sA 4 L fun a s L=>?_);refine en' ?_;exact hKL15 a s ⟨r24,i11,(j12-i11),L.kk,h⟩
 ·refine wp_exit ?_;exact J6 data10 i11 a s (L.kk) h
theorem za.n_ok (k_:Nat):∀(v0:Value) {data_:(List Cl)} {a_:Int} {m_:Int} {b_:Int} {cmp_:(Cl × Cl × Int→Prop)} {r_:(List Cl)} (h:za.n k_ data_ a_ m_ b_ cmp_ r_),Fm Tryz.prog 216 (fun b=>v0.ownBlock=some b) [(Pd.prow En.cls 40 v0 data_),(Pi a_),(Pi m_),(Pi b_),(Pd.rep EnF268 cmp_)] (fun _ s' _=>(Pd.prow En.cls 40 v0 r_).p s' v0):=by
 induction k_ with
 | zero=>intro v0 data_ a_ m_ b_ cmp_ r_ h;exact h.elim
 | succ k_ ih_=>
 intro v0 data_ a_ m_ b_ cmp_ r_ h;unfold za.n at h;refine fm_of Tryz.func216 J Tryz.ntmps216 (by rfl) (by simp) fun s0 a L=>?_;refine wp_seq_k fun K1 H1=>?_;obtain ⟨h2,h⟩:=h;refine rA 4 L fun a s L=>?_;refine cn L h (fun h=>?_) fun h=>?_
 ·refine rA 2 L fun a s L=>?_;refine rA 2 L fun a s L=>?_;refine wp_seq_k fun K3 H3=>wp_block ?_;have J5:∀(i4:Int) (a:Act) (s:St),Has (fun b=>v0.ownBlock=some b) 220 s0 a s [(0,(Pd.prow En.cls 40 v0 data_)),(1,(Pi a_)),(10,(Pi i4))]→((za.j2 data_ a_ r_) i4)→K3 a s.w:=by
   intro i4 a s L h;unfold za.j2 at h;show K3 a s.w;refine H3 _ _ (wp_seq_k fun K6 H6=>?_);refine rA 2 L fun a s L=>?_;refine wp_block ?_;have J8:∀(data7:(List Cl)) (a:Act) (s:St),Has (fun b=>v0.ownBlock=some b) 220 s0 a s [(0,(Pd.prow En.cls 40 v0 data7))]→((za.j1 r_) data7)→K6 a s.w:=by
    intro data7 a s L h;unfold za.j1 at h;show K6 a s.w;refine H6 _ _ ?_;subst h;exact wp_ret (retm J L (c:=0) J)
   obtain ⟨k11,h⟩:=h;refine lpn (fun k12 a s=>∃(data9:(List Cl)) (k10:Int),Has (fun b=>v0.ownBlock=some b) 220 s0 a s [(0,(Pd.prow En.cls 40 v0 data9)),(10,(Pi i4)),(13,(Pi k10))]∧za.l1 i4 (za.j1 r_) k12 data9 k10) k11 ⟨data_,a_,L.kk,h⟩ ?_;rintro k12 a s ⟨data9,k10,L,h⟩ KL13 hKL13;unfold za.l1 at h;refine wp_seq_k fun K14 H14=>?_;obtain ⟨h15,h⟩:=h;refine rA 4 L fun a s L=>?_;refine cn L h (fun h=>?_) fun h=>?_
   ·refine wp_skip (H14 _ _ ?_);refine wp_seq_k fun K16 H16=>wp_block ?_;obtain ⟨h17,h18,e19,h20,e21,h22,e23,h24,e25,h26,h⟩:=h;refine rdf 18 zck L (by kernel_rfl) fun s _ L=>?_;refine zei 2 63 L (by rfl) (by kernel_rfl) (by kernel_rfl) (by kernel_rfl) (fun _ _ _ _ h=>h) (q:=(Pd.prow En.cls 40 v0 data9)) (ziu (O 0 J) J J) J J fun a L=>?_;refine zei 3 64 L (by rfl) (by kernel_rfl) (by kernel_rfl) (by kernel_rfl) (fun _ _ _ _ h=>h) (q:=(Pi k10)) (ziu (O 13 J) J J) J J fun a L=>?_;refine zei 4 65 L (by rfl) (by kernel_rfl) (by kernel_rfl) (by kernel_rfl) (fun _ _ _ _ h=>h) (q:=(Pi (k10+1))) (y_add (O 64 J) oI h17 J J) J J fun a L=>?_;refine fl_go 15 [(Pd.prow En.cls 40 v0 data9),(Pi k10),(Pd.prow En.cls 40 v0 data9),(Pi k10),(Pi (k10+1)),(Pd.prow En.cls 40 v0 data9),(Pi k10),(Pi (k10+1)),(Pd.optr En.cls 0 v0.ownBlock ((k10+1:Int).toNat*En.cls.sz) e19),(Pd.rep En.cls e19),(Pd.prow En.cls 40 v0 data9),(Pi k10),(Pd.optr En.cls 0 v0.ownBlock ((k10:Int).toNat*En.cls.sz) e21),(Pd.rep En.cls e21),(Pd.optr En.cls 0 v0.ownBlock ((k10:Int).toNat*En.cls.sz) e23)] [2,3,4] L (by kernel_rfl) (by kernel_rfl) (by kernel_rfl) (.cons (i:=2) J J J J (.cons (i:=3) J J J J (.cons (i:=4) J J J J .nil))) J J ?_ ?_
    ·refine zb9.cons (zj (O 0 J) J J) ?_;refine zb9.cons (zj (O 13 J) J J) ?_;refine zb9.skip J ?_;refine zb9.skip J ?_;refine zb9.skip J ?_;refine zb9.cons (zj (O 0 J) J J) ?_;refine zb9.cons (zj (O 13 J) J J) ?_;refine zb9.cons (zi6 (O 67 J) oI h18 J J) ?_;refine zb9.cons (zea (o_p (O 66 J)) (O 68 J) h20 U148 zgk J J) ?_;refine zb9.cons (zcr zgk (O 69 J) J J) ?_;refine zb9.cons (zj (O 0 J) J J) ?_;refine zb9.cons (zj (O 13 J) J J) ?_;refine zb9.cons (zea (o_p (O 71 J)) (O 72 J) h22 U148 zgk J J) ?_;refine zb9.cons (zcr zgk (O 73 J) J J) ?_;refine zb9.cons (zea (o_p (O 61 J)) (O 62 J) h24 U148 zgk J J) ?_;exact zb9.nil
    intro a s _ L;replace L:=L.kk (L':=[(0,(Pd.prow En.cls 40 v0 data9)),(10,(Pi i4)),(13,(Pi k10)),(63,(Pd.prow En.cls 40 v0 data9)),(65,(Pi (k10+1))),(70,(Pd.rep En.cls e19)),(74,(Pd.rep En.cls e21)),(75,(Pd.optr En.cls 0 v0.ownBlock ((k10:Int).toNat*En.cls.sz) e23))]);refine dp ?_;refine zfs (off:=0) 0 (fun b h=>h) L J h24 op op (zo _ _ _) Tq.h J J J kw fun s L=>?_;refine sl 1 (p1 h26) L fun a s L=>?_;refine zfs (off:=0) 0 (fun b h=>h) L J h26 op op (zo _ _ _) Tq.h J J J kw fun s L=>?_;refine en' (H16 _ _ ?_);obtain ⟨h27,h⟩:=h;refine rg (sA 3 L fun a s L=>?_);refine en' ?_;exact hKL13 a s ⟨((data9.set (k10:Int).toNat e19).set (k10+1:Int).toNat e21),(k10+1),L.kk,h⟩
   ·refine wp_exit ?_;exact J8 data9 a s (L.kk) h
  obtain ⟨k30,h⟩:=h;refine lpn (fun k31 a s=>∃(i28:Int) (j29:Int),Has (fun b=>v0.ownBlock=some b) 220 s0 a s [(0,(Pd.prow En.cls 40 v0 data_)),(1,(Pi a_)),(4,(Pd.rep EnF268 cmp_)),(10,(Pi i28)),(11,(Pi j29))]∧za.l2 data_ a_ cmp_ (za.j2 data_ a_ r_) k31 i28 j29) k30 ⟨m_,b_,L.kk,h⟩ ?_;rintro k31 a s ⟨i28,j29,L,h⟩ KL32 hKL32;unfold za.l2 at h;refine wp_seq_k fun K33 H33=>rA 3 L fun a s L=>?_;refine cn L h (fun h=>?_) fun h=>?_
  ·refine wp_skip (H33 _ _ ?_);refine wp_block ?_;obtain ⟨h34,i35,h36,h⟩:=h;refine ra 7 (p1 h36) L fun a s L=>?_;obtain ⟨e37,h38,e39,h40,r41,h42,h⟩:=h;refine wp_seq (rda zck 11 [(Pd.rep EnF268 cmp_),(Pd.prow En.cls 40 v0 data_),(Pi i35),(Pd.optr En.cls 0 v0.ownBlock ((i35:Int).toNat*En.cls.sz) e37),(Pd.rep En.cls e37),(Pd.prow En.cls 40 v0 data_),(Pi a_),(Pd.optr En.cls 0 v0.ownBlock ((a_:Int).toNat*En.cls.sz) e39),(Pd.rep En.cls e39),(Pi r41),(Pd.rep En.bool (decide (r41<0)))] L (by kernel_rfl) J J ?_ ?_)
   ·refine zbe.cons (zj (O 4 J) J J) ?_;refine zbe.cons (zj (O 0 J) J J) ?_;refine zbe.cons (zj (O 12 J) J J) ?_;refine zbe.cons (zea (o_p (O 41 J)) (O 42 J) h38 U148 zgk J J) ?_;refine zbe.cons (zcr zgk (O 43 J) J J) ?_;refine zbe.cons (zj (O 0 J) J J) ?_;refine zbe.cons (zj (O 1 J) J J) ?_;refine zbe.cons (zea (o_p (O 45 J)) (O 46 J) h40 U148 zgk J J) ?_;refine zbe.cons (zcr zgk (O 47 J) J J) ?_;refine zbe.cons (zgq (q:=(e37,e39,r41)) (O 40 J) h42 (xs:=[.tmp 44,.tmp 48]) (.cons (O 44 J) (.cons (O 48 J) .nil)) (fun _ _ _ h_=>h_) J J) ?_;refine zbe.cons (zi1 (O 49 J) oI J J) ?_;exact zbe.nil
   intro a s _ L;replace L:=L.kk (L':=[(0,(Pd.prow En.cls 40 v0 data_)),(1,(Pi a_)),(4,(Pd.rep EnF268 cmp_)),(10,(Pi i28)),(11,(Pi j29)),(12,(Pi i35)),(50,(Pd.rep En.bool (decide (r41<0))))]);refine dp ?_;refine es (cn L h (fun h=>?_) fun h=>?_)
   ·obtain ⟨h43,h⟩:=h;refine rg (sA 3 L fun a s L=>?_);refine en' ?_;exact hKL32 a s ⟨(i35+1),j29,L.kk,h⟩
   ·refine rg ?_;refine sA 2 L fun a s L=>?_;refine en' ?_;exact hKL32 a s ⟨i28,i35,L.kk,h⟩
  ·refine wp_exit ?_;exact J5 i28 a s (L.kk) h
 ·refine wp_skip (H1 _ _ ?_);refine wp_seq_k fun K44 H44=>?_;obtain ⟨h45,h⟩:=h;refine rA 4 L fun a s L=>?_;refine cn L h (fun h=>?_) fun h=>?_
  ·refine rA 2 L fun a s L=>?_;refine rA 2 L fun a s L=>?_;refine wp_seq_k fun K46 H46=>wp_block ?_;have J48:∀(i47:Int) (a:Act) (s:St),Has (fun b=>v0.ownBlock=some b) 220 s0 a s [(0,(Pd.prow En.cls 40 v0 data_)),(2,(Pi m_)),(14,(Pi i47))]→((za.j4 data_ m_ r_) i47)→K46 a s.w:=by
    intro i47 a s L h;unfold za.j4 at h;show K46 a s.w;refine H46 _ _ (wp_seq_k fun K49 H49=>?_);refine rA 2 L fun a s L=>?_;refine wp_block ?_;have J51:∀(data50:(List Cl)) (a:Act) (s:St),Has (fun b=>v0.ownBlock=some b) 220 s0 a s [(0,(Pd.prow En.cls 40 v0 data50))]→((za.j3 r_) data50)→K49 a s.w:=by
     intro data50 a s L h;unfold za.j3 at h;show K49 a s.w;refine H49 _ _ ?_;subst h;exact wp_ret (retm J L (c:=0) J)
    obtain ⟨k54,h⟩:=h;refine lpn (fun k55 a s=>∃(data52:(List Cl)) (k53:Int),Has (fun b=>v0.ownBlock=some b) 220 s0 a s [(0,(Pd.prow En.cls 40 v0 data52)),(14,(Pi i47)),(17,(Pi k53))]∧za.l3 i47 (za.j3 r_) k55 data52 k53) k54 ⟨data_,m_,L.kk,h⟩ ?_;rintro k55 a s ⟨data52,k53,L,h⟩ KL56 hKL56;unfold za.l3 at h;refine wp_seq_k fun K57 H57=>rA 3 L fun a s L=>?_;refine cn L h (fun h=>?_) fun h=>?_
    ·refine wp_skip (H57 _ _ ?_);refine wp_seq_k fun K58 H58=>wp_block ?_;obtain ⟨h59,h60,e61,h62,e63,h64,e65,h66,e67,h68,h⟩:=h;refine rdf 18 zck L (by kernel_rfl) fun s _ L=>?_;refine zei 2 115 L (by rfl) (by kernel_rfl) (by kernel_rfl) (by kernel_rfl) (fun _ _ _ _ h=>h) (q:=(Pd.prow En.cls 40 v0 data52)) (ziu (O 0 J) J J) J J fun a L=>?_;refine zei 3 116 L (by rfl) (by kernel_rfl) (by kernel_rfl) (by kernel_rfl) (fun _ _ _ _ h=>h) (q:=(Pi k53)) (ziu (O 17 J) J J) J J fun a L=>?_;refine zei 4 117 L (by rfl) (by kernel_rfl) (by kernel_rfl) (by kernel_rfl) (fun _ _ _ _ h=>h) (q:=(Pi (k53-1))) (y_sub (O 116 J) oI h59 J J) J J fun a L=>?_;refine fl_go 15 [(Pd.prow En.cls 40 v0 data52),(Pi k53),(Pd.prow En.cls 40 v0 data52),(Pi k53),(Pi (k53-1)),(Pd.prow En.cls 40 v0 data52),(Pi k53),(Pi (k53-1)),(Pd.optr En.cls 0 v0.ownBlock ((k53-1:Int).toNat*En.cls.sz) e61),(Pd.rep En.cls e61),(Pd.prow En.cls 40 v0 data52),(Pi k53),(Pd.optr En.cls 0 v0.ownBlock ((k53:Int).toNat*En.cls.sz) e63),(Pd.rep En.cls e63),(Pd.optr En.cls 0 v0.ownBlock ((k53:Int).toNat*En.cls.sz) e65)] [2,3,4] L (by kernel_rfl) (by kernel_rfl) (by kernel_rfl) (.cons (i:=2) J J J J (.cons (i:=3) J J J J (.cons (i:=4) J J J J .nil))) J J ?_ ?_
     ·refine zb9.cons (zj (O 0 J) J J) ?_;refine zb9.cons (zj (O 17 J) J J) ?_;refine zb9.skip J ?_;refine zb9.skip J ?_;refine zb9.skip J ?_;refine zb9.cons (zj (O 0 J) J J) ?_;refine zb9.cons (zj (O 17 J) J J) ?_;refine zb9.cons (zlw (O 119 J) oI h60 J J) ?_;refine zb9.cons (zea (o_p (O 118 J)) (O 120 J) h62 U148 zgk J J) ?_;refine zb9.cons (zcr zgk (O 121 J) J J) ?_;refine zb9.cons (zj (O 0 J) J J) ?_;refine zb9.cons (zj (O 17 J) J J) ?_;refine zb9.cons (zea (o_p (O 123 J)) (O 124 J) h64 U148 zgk J J) ?_;refine zb9.cons (zcr zgk (O 125 J) J J) ?_;refine zb9.cons (zea (o_p (O 113 J)) (O 114 J) h66 U148 zgk J J) ?_;exact zb9.nil
     intro a s _ L;replace L:=L.kk (L':=[(0,(Pd.prow En.cls 40 v0 data52)),(14,(Pi i47)),(17,(Pi k53)),(115,(Pd.prow En.cls 40 v0 data52)),(117,(Pi (k53-1))),(122,(Pd.rep En.cls e61)),(126,(Pd.rep En.cls e63)),(127,(Pd.optr En.cls 0 v0.ownBlock ((k53:Int).toNat*En.cls.sz) e65))]);refine dp ?_;refine zfs (off:=0) 0 (fun b h=>h) L J h66 op op (zo _ _ _) Tq.h J J J kw fun s L=>?_;refine sl 1 (p1 h68) L fun a s L=>?_;refine zfs (off:=0) 0 (fun b h=>h) L J h68 op op (zo _ _ _) Tq.h J J J kw fun s L=>?_;refine en' (H58 _ _ ?_);obtain ⟨h69,h⟩:=h;refine rg (sA 3 L fun a s L=>?_);refine en' ?_;exact hKL56 a s ⟨((data52.set (k53:Int).toNat e61).set (k53-1:Int).toNat e63),(k53-1),L.kk,h⟩
    ·refine wp_exit ?_;exact J51 data52 a s (L.kk) h
   obtain ⟨k72,h⟩:=h;refine lpn (fun k73 a s=>∃(i70:Int) (j71:Int),Has (fun b=>v0.ownBlock=some b) 220 s0 a s [(0,(Pd.prow En.cls 40 v0 data_)),(2,(Pi m_)),(4,(Pd.rep EnF268 cmp_)),(14,(Pi i70)),(15,(Pi j71))]∧za.l4 data_ m_ cmp_ (za.j4 data_ m_ r_) k73 i70 j71) k72 ⟨a_,m_,L.kk,h⟩ ?_;rintro k73 a s ⟨i70,j71,L,h⟩ KL74 hKL74;unfold za.l4 at h;refine wp_seq_k fun K75 H75=>rA 3 L fun a s L=>?_;refine cn L h (fun h=>?_) fun h=>?_
   ·refine wp_skip (H75 _ _ ?_);refine wp_block ?_;obtain ⟨h76,i77,h78,h⟩:=h;refine ra 7 (p1 h78) L fun a s L=>?_;obtain ⟨e79,h80,e81,h82,r83,h84,h⟩:=h;refine wp_seq (rda zck 12 [(Pd.rep EnF268 cmp_),(Pd.prow En.cls 40 v0 data_),(Pi m_),(Pd.optr En.cls 0 v0.ownBlock ((m_:Int).toNat*En.cls.sz) e79),(Pd.rep En.cls e79),(Pd.prow En.cls 40 v0 data_),(Pi i77),(Pd.optr En.cls 0 v0.ownBlock ((i77:Int).toNat*En.cls.sz) e81),(Pd.rep En.cls e81),(Pi r83),(Pd.rep En.bool (decide (r83<0))),(Pd.rep En.bool (!(decide (r83<0))))] L (by kernel_rfl) J J ?_ ?_)
    ·refine zbe.cons (zj (O 4 J) J J) ?_;refine zbe.cons (zj (O 0 J) J J) ?_;refine zbe.cons (zj (O 2 J) J J) ?_;refine zbe.cons (zea (o_p (O 93 J)) (O 94 J) h80 U148 zgk J J) ?_;refine zbe.cons (zcr zgk (O 95 J) J J) ?_;refine zbe.cons (zj (O 0 J) J J) ?_;refine zbe.cons (zj (O 16 J) J J) ?_;refine zbe.cons (zea (o_p (O 97 J)) (O 98 J) h82 U148 zgk J J) ?_;refine zbe.cons (zcr zgk (O 99 J) J J) ?_;refine zbe.cons (zgq (q:=(e79,e81,r83)) (O 92 J) h84 (xs:=[.tmp 96,.tmp 100]) (.cons (O 96 J) (.cons (O 100 J) .nil)) (fun _ _ _ h_=>h_) J J) ?_;refine zbe.cons (zi1 (O 101 J) oI J J) ?_;refine zbe.cons (t_not (O 102 J) J J) ?_;exact zbe.nil
    intro a s _ L;replace L:=L.kk (L':=[(0,(Pd.prow En.cls 40 v0 data_)),(2,(Pi m_)),(4,(Pd.rep EnF268 cmp_)),(14,(Pi i70)),(15,(Pi j71)),(16,(Pi i77)),(103,(Pd.rep En.bool (!(decide (r83<0)))))]);refine dp ?_;refine es (cn L h (fun h=>?_) fun h=>?_)
    ·obtain ⟨h85,h⟩:=h;refine rg (sA 3 L fun a s L=>?_);refine en' ?_;exact hKL74 a s ⟨(i77+1),j71,L.kk,h⟩
    ·refine rg ?_;refine sA 2 L fun a s L=>?_;refine en' ?_;exact hKL74 a s ⟨i70,i77,L.kk,h⟩
   ·refine wp_exit ?_;exact J48 i70 a s (L.kk) h
  ·refine wp_skip (H44 _ _ ?_);obtain ⟨h86,i87,h88,h⟩:=h;refine ra 7 (p1 h88) L fun a s L=>?_;obtain ⟨h89,h⟩:=h;refine rA 4 L fun a s L=>?_;refine rA 2 L fun a s L=>?_;refine wp_seq_k fun K90 H90=>rA 3 L fun a s L=>?_;have J93:∀(start91:Int) (r92:Int) (a:Act) (s:St),Has (fun b=>v0.ownBlock=some b) 220 s0 a s [(0,(Pd.prow En.cls 40 v0 data_)),(1,(Pi a_)),(2,(Pi m_)),(3,(Pi b_)),(4,(Pd.rep EnF268 cmp_)),(18,(Pi i87)),(19,(Pi (i87+m_))),(20,(Pi start91)),(21,(Pi r92))]→((za.j8 (za.n k_) data_ a_ m_ b_ cmp_ r_ i87) start91 r92)→K90 a s.w:=by
    intro start91 r92 a s L h;unfold za.j8 at h;show K90 a s.w;refine H90 _ _ ?_;obtain ⟨h94,h⟩:=h;refine rA 3 L fun a s L=>?_;refine wp_seq_k fun K95 H95=>wp_block ?_;have J97:∀(start96:Int) (a:Act) (s:St),Has (fun b=>v0.ownBlock=some b) 220 s0 a s [(0,(Pd.prow En.cls 40 v0 data_)),(1,(Pi a_)),(2,(Pi m_)),(3,(Pi b_)),(4,(Pd.rep EnF268 cmp_)),(18,(Pi i87)),(19,(Pi (i87+m_))),(20,(Pi start96))]→((za.j7 (za.n k_) data_ a_ m_ b_ cmp_ r_ i87) start96)→K95 a s.w:=by
     intro start96 a s L h;unfold za.j7 at h;show K95 a s.w;refine H95 _ _ ?_;obtain ⟨h98,h⟩:=h;refine rA 4 L fun a s L=>?_;refine wp_seq_k fun K99 H99=>?_;obtain ⟨b100,h101,h⟩:=h;refine ra 8 (p1 h101) L fun a s L=>?_;have J103:∀(data102:(List Cl)) (a:Act) (s:St),Has (fun b=>v0.ownBlock=some b) 220 s0 a s [(0,(Pd.prow En.cls 40 v0 data102)),(1,(Pi a_)),(3,(Pi b_)),(4,(Pd.rep EnF268 cmp_)),(18,(Pi i87)),(20,(Pi start96)),(24,(Pi ((i87+m_)-start96)))]→((za.j6 (za.n k_) a_ m_ b_ cmp_ r_ i87 start96) data102)→K99 a s.w:=by
      intro data102 a s L h;unfold za.j6 at h;show K99 a s.w;refine H99 _ _ (wp_seq_k fun K104 H104=>?_);obtain ⟨b105,h106,h⟩:=h;refine ra 8 (p1 h106) L fun a s L=>?_;have J108:∀(data107:(List Cl)) (a:Act) (s:St),Has (fun b=>v0.ownBlock=some b) 220 s0 a s [(0,(Pd.prow En.cls 40 v0 data107)),(3,(Pi b_)),(4,(Pd.rep EnF268 cmp_)),(18,(Pi i87)),(24,(Pi ((i87+m_)-start96)))]→((za.j5 (za.n k_) m_ b_ cmp_ r_ i87 start96) data107)→K104 a s.w:=by
       intro data107 a s L h;unfold za.j5 at h;show K104 a s.w;refine H104 _ _ ?_;obtain ⟨b109,h110,h⟩:=h;refine ra 8 (p1 h110) L fun a s L=>?_;refine cn L h (fun h=>?_) fun h=>?_
       ·obtain ⟨r111,h112,h⟩:=h;refine rg (sA 5 L fun a s L=>?_);refine ze9 219 (fun v0=>ih_ v0 h112) L (fun b h=>h) op opz J J J J kw fun a s L=>?_;refine en' ?_;subst h;exact retm J L (c:=0) J
       ·refine wp_skip ?_;subst h;exact retm J L (c:=0) J
      refine cn L h (fun h=>?_) fun h=>?_
      ·obtain ⟨r113,h114,h⟩:=h;refine rg (sA 5 L fun a s L=>?_);refine ze9 205 (fun v0=>ih_ v0 h114) L (fun b h=>h) op opz J J J J kw fun a s L=>?_;refine en' ?_;exact J108 r113 a s (L.kk) h
      ·refine wp_skip ?_;exact J108 data102 a s (L.kk) h
     refine cn L h (fun h=>?_) fun h=>?_
     ·obtain ⟨r115,h116,h⟩:=h;refine rg (sA 5 L fun a s L=>?_);refine ze9 191 (fun v0=>zfb v0 h116) L (fun b h=>h) op opz J J J J kw fun a s L=>?_;refine en' ?_;exact J103 r115 a s (L.kk) h
     ·refine wp_skip ?_;exact J103 data_ a s (L.kk) h
    obtain ⟨k119,h⟩:=h;refine lpn (fun k120 a s=>∃(start117:Int) (r118:Int),Has (fun b=>v0.ownBlock=some b) 220 s0 a s [(0,(Pd.prow En.cls 40 v0 data_)),(1,(Pi a_)),(2,(Pi m_)),(3,(Pi b_)),(4,(Pd.rep EnF268 cmp_)),(18,(Pi i87)),(19,(Pi (i87+m_))),(20,(Pi start117)),(21,(Pi r118)),(22,(Pi ((i87+m_)-1)))]∧za.l5 data_ m_ cmp_ i87 (za.j7 (za.n k_) data_ a_ m_ b_ cmp_ r_ i87) k120 start117 r118) k119 ⟨start91,r92,L.kk,h⟩ ?_;rintro k120 a s ⟨start117,r118,L,h⟩ KL121 hKL121;unfold za.l5 at h;refine wp_seq_k fun K122 H122=>rA 3 L fun a s L=>?_;refine cn L h (fun h=>?_) fun h=>?_
    ·refine wp_skip (H122 _ _ ?_);refine wp_block ?_;obtain ⟨h123,i124,h125,h⟩:=h;refine ra 7 (p1 h125) L fun a s L=>?_;obtain ⟨h126,e127,h128,e129,h130,r131,h132,h⟩:=h;refine wp_seq (rda zck 14 [(Pd.rep EnF268 cmp_),(Pd.prow En.cls 40 v0 data_),(Pi ((i87+m_)-1)),(Pi i124),(Pi (((i87+m_)-1)-i124)),(Pd.optr En.cls 0 v0.ownBlock ((((i87+m_)-1)-i124:Int).toNat*En.cls.sz) e127),(Pd.rep En.cls e127),(Pd.prow En.cls 40 v0 data_),(Pi i124),(Pd.optr En.cls 0 v0.ownBlock ((i124:Int).toNat*En.cls.sz) e129),(Pd.rep En.cls e129),(Pi r131),(Pd.rep En.bool (decide (r131<0))),(Pd.rep En.bool (!(decide (r131<0))))] L (by kernel_rfl) J J ?_ ?_)
     ·refine zbe.cons (zj (O 4 J) J J) ?_;refine zbe.cons (zj (O 0 J) J J) ?_;refine zbe.cons (zj (O 22 J) J J) ?_;refine zbe.cons (zj (O 23 J) J J) ?_;refine zbe.cons (zlw (O 160 J) (O 161 J) h126 J J) ?_;refine zbe.cons (zea (o_p (O 159 J)) (O 162 J) h128 U148 zgk J J) ?_;refine zbe.cons (zcr zgk (O 163 J) J J) ?_;refine zbe.cons (zj (O 0 J) J J) ?_;refine zbe.cons (zj (O 23 J) J J) ?_;refine zbe.cons (zea (o_p (O 165 J)) (O 166 J) h130 U148 zgk J J) ?_;refine zbe.cons (zcr zgk (O 167 J) J J) ?_;refine zbe.cons (zgq (q:=(e127,e129,r131)) (O 158 J) h132 (xs:=[.tmp 164,.tmp 168]) (.cons (O 164 J) (.cons (O 168 J) .nil)) (fun _ _ _ h_=>h_) J J) ?_;refine zbe.cons (zi1 (O 169 J) oI J J) ?_;refine zbe.cons (t_not (O 170 J) J J) ?_;exact zbe.nil
     intro a s _ L;replace L:=L.kk (L':=[(0,(Pd.prow En.cls 40 v0 data_)),(1,(Pi a_)),(2,(Pi m_)),(3,(Pi b_)),(4,(Pd.rep EnF268 cmp_)),(18,(Pi i87)),(19,(Pi (i87+m_))),(20,(Pi start117)),(21,(Pi r118)),(22,(Pi ((i87+m_)-1))),(23,(Pi i124)),(171,(Pd.rep En.bool (!(decide (r131<0)))))]);refine dp ?_;refine es (cn L h (fun h=>?_) fun h=>?_)
     ·obtain ⟨h133,h⟩:=h;refine rg (sA 3 L fun a s L=>?_);refine en' ?_;exact hKL121 a s ⟨(i124+1),r118,L.kk,h⟩
     ·refine rg ?_;refine sA 2 L fun a s L=>?_;refine en' ?_;exact hKL121 a s ⟨start117,i124,L.kk,h⟩
    ·refine wp_exit ?_;exact J97 start117 a s (L.kk) h
   refine cn L h (fun h=>?_) fun h=>?_
   ·obtain ⟨h134,h⟩:=h;refine rA 4 L fun a s L=>?_;refine rg (sA 2 L fun a s L=>?_);refine en' ?_;exact J93 ((i87+m_)-b_) i87 a s (L.kk) h
   ·refine rA 2 L fun a s L=>?_;refine rg (sA 2 L fun a s L=>?_);refine en' ?_;exact J93 a_ m_ a s (L.kk) h
theorem zdd (v0:Value) {data_:(List Cl)} {a_:Int} {m_:Int} {b_:Int} {cmp_:(Cl × Cl × Int→Prop)} {r_:(List Cl)} (h:za data_ a_ m_ b_ cmp_ r_):Fm Tryz.prog 216 (fun b=>v0.ownBlock=some b) [(Pd.prow En.cls 40 v0 data_),(Pi a_),(Pi m_),(Pi b_),(Pd.rep EnF268 cmp_)] (fun _ s' _=>(Pd.prow En.cls 40 v0 r_).p s' v0):=by
 obtain ⟨k_,h⟩:=h;exact za.n_ok k_ v0 h
theorem zfa (v0:Value) {data_:(List Cl)} {nv_:Int} {cmp_:(Cl × Cl × Int→Prop)} {r_:(List Cl)} (h:zb data_ nv_ cmp_ r_):Fm Tryz.prog 205 (fun b=>v0.ownBlock=some b) [(Pd.prow En.cls 40 v0 data_),(Pi nv_),(Pd.rep EnF268 cmp_)] (fun _ s' _=>(Pd.prow En.cls 40 v0 r_).p s' v0):=by
 unfold zb at h;refine fm_of Tryz.func205 J Tryz.ntmps205 (by rfl) (by simp) fun s0 a L=>?_;refine rA 1 L fun a s L=>?_;refine rA 3 L fun a s L=>?_;refine wp_seq_k fun K1 H1=>wp_block ?_;have J4:∀(data2:(List Cl)) (a3:Int) (a:Act) (s:St),Has (fun b=>v0.ownBlock=some b) 63 s0 a s [(0,(Pd.prow En.cls 40 v0 data2)),(1,(Pi nv_)),(2,(Pd.rep EnF268 cmp_)),(6,(Pi 20)),(7,(Pi a3))]→((zb.j3 nv_ cmp_ r_) data2 a3)→K1 a s.w:=by
  intro data2 a3 a s L h;unfold zb.j3 at h;show K1 a s.w;refine H1 _ _ ?_;obtain ⟨r5,h6,h⟩:=h;refine rs (sA 4 L fun a s L=>?_);refine ze9 27 (fun v0=>zcv v0 h6) L (fun b h=>h) op opz J J J J kw fun a s L=>?_;refine es (wp_block ?_);have J8:∀(data7:(List Cl)) (a:Act) (s:St),Has (fun b=>v0.ownBlock=some b) 63 s0 a s [(0,(Pd.prow En.cls 40 v0 data7))]→((zb.j1 r_) data7)→(bodyPost Tryz.prog Tryz.f205 (Pst (fun b=>v0.ownBlock=some b) (fun _ s' _=>(Pd.prow En.cls 40 v0 r_).p s' v0) s0) .normal) a s.w:=by
   intro data7 a s L h;unfold zb.j1 at h;subst h;exact retm J L (c:=0) J
  obtain ⟨k11,h⟩:=h;refine lpn (fun k12 a s=>∃(data9:(List Cl)) (blockSize10:Int),Has (fun b=>v0.ownBlock=some b) 63 s0 a s [(0,(Pd.prow En.cls 40 v0 data9)),(1,(Pi nv_)),(2,(Pd.rep EnF268 cmp_)),(6,(Pi blockSize10))]∧zb.l1 nv_ cmp_ (zb.j1 r_) k12 data9 blockSize10) k11 ⟨r5,20,L.kk,h⟩ ?_;rintro k12 a s ⟨data9,blockSize10,L,h⟩ KL13 hKL13;unfold zb.l1 at h;refine wp_seq_k fun K14 H14=>rA 3 L fun a s L=>?_;refine cn L h (fun h=>?_) fun h=>?_
  ·refine wp_skip (H14 _ _ ?_);refine wp_block ?_;obtain ⟨h15,h⟩:=h;refine rA 4 L fun a s L=>?_;refine wp_seq_k fun K16 H16=>wp_block ?_;have J19:∀(data17:(List Cl)) (a18:Int) (a:Act) (s:St),Has (fun b=>v0.ownBlock=some b) 63 s0 a s [(0,(Pd.prow En.cls 40 v0 data17)),(1,(Pi nv_)),(2,(Pd.rep EnF268 cmp_)),(6,(Pi blockSize10)),(7,(Pi a18))]→((zb.j2 (zb.l1 nv_ cmp_ (zb.j1 r_) k12) nv_ cmp_ blockSize10) data17 a18)→K16 a s.w:=by
    intro data17 a18 a s L h;unfold zb.j2 at h;show K16 a s.w;refine H16 _ _ (wp_seq_k fun K20 H20=>?_);obtain ⟨h21,h⟩:=h;refine rA 4 L fun a s L=>?_;refine rA 3 L fun a s L=>?_;refine cn L h (fun h=>?_) fun h=>?_
    ·obtain ⟨r22,h23,h⟩:=h;refine rg (sA 5 L fun a s L=>?_);refine ze9 60 (fun v0=>zdd v0 h23) L (fun b h=>h) op opz J J J J kw fun a s L=>?_;refine en' (H20 _ _ ?_);obtain ⟨h24,h⟩:=h;refine rg (sA 3 L fun a s L=>?_);refine en' ?_;exact hKL13 a s ⟨r22,(blockSize10*2),L.kk,h⟩
    ·refine wp_skip (H20 _ _ ?_);obtain ⟨h25,h⟩:=h;refine rg (sA 3 L fun a s L=>?_);refine en' ?_;exact hKL13 a s ⟨data17,(blockSize10*2),L.kk,h⟩
   obtain ⟨k29,h⟩:=h;refine lpn (fun k30 a s=>∃(data26:(List Cl)) (a27:Int) (b28:Int),Has (fun b=>v0.ownBlock=some b) 63 s0 a s [(0,(Pd.prow En.cls 40 v0 data26)),(1,(Pi nv_)),(2,(Pd.rep EnF268 cmp_)),(6,(Pi blockSize10)),(7,(Pi a27)),(8,(Pi b28))]∧zb.l2 nv_ cmp_ blockSize10 (zb.j2 (zb.l1 nv_ cmp_ (zb.j1 r_) k12) nv_ cmp_ blockSize10) k30 data26 a27 b28) k29 ⟨data9,0,(2*blockSize10),L.kk,h⟩ ?_;rintro k30 a s ⟨data26,a27,b28,L,h⟩ KL31 hKL31;unfold zb.l2 at h;refine wp_seq_k fun K32 H32=>rA 3 L fun a s L=>?_;refine cn L h (fun h=>?_) fun h=>?_
   ·refine wp_skip (H32 _ _ ?_);refine wp_block ?_;obtain ⟨h33,r34,h35,h⟩:=h;refine rs (sA 7 L fun a s L=>?_);refine ze9 43 (fun v0=>zdd v0 h35) L (fun b h=>h) op opz J J J J kw fun a s L=>?_;refine es (rA 2 L fun a s L=>?_);obtain ⟨h36,h37,h⟩:=h;refine rg (sA 5 L fun a s L=>?_);refine en' ?_;exact hKL31 a s ⟨r34,b28,(b28+(2*blockSize10)),L.kk,h⟩
   ·refine wp_exit ?_;exact J19 data26 a27 a s (L.kk) h
  ·refine wp_exit ?_;exact J8 data9 a s (L.kk) h
 obtain ⟨k41,h⟩:=h;refine lpn (fun k42 a s=>∃(data38:(List Cl)) (a39:Int) (b40:Int),Has (fun b=>v0.ownBlock=some b) 63 s0 a s [(0,(Pd.prow En.cls 40 v0 data38)),(1,(Pi nv_)),(2,(Pd.rep EnF268 cmp_)),(6,(Pi 20)),(7,(Pi a39)),(8,(Pi b40))]∧zb.l3 nv_ cmp_ (zb.j3 nv_ cmp_ r_) k42 data38 a39 b40) k41 ⟨data_,0,20,L.kk,h⟩ ?_;rintro k42 a s ⟨data38,a39,b40,L,h⟩ KL43 hKL43;unfold zb.l3 at h;refine wp_seq_k fun K44 H44=>rA 3 L fun a s L=>?_;refine cn L h (fun h=>?_) fun h=>?_
 ·refine wp_skip (H44 _ _ ?_);refine wp_block ?_;obtain ⟨r45,h46,h⟩:=h;refine rs (sA 4 L fun a s L=>?_);refine ze9 18 (fun v0=>zcv v0 h46) L (fun b h=>h) op opz J J J J kw fun a s L=>?_;refine es (rA 2 L fun a s L=>?_);obtain ⟨h47,h⟩:=h;refine rg (sA 4 L fun a s L=>?_);refine en' ?_;exact hKL43 a s ⟨r45,b40,(b40+20),L.kk,h⟩
 ·refine wp_exit ?_;exact J4 data38 a39 a s (L.kk) h
theorem zdy (v0:Value) {x_:(List Cl)} {cmp_:(Cl × Cl × Int→Prop)} {r_:(List Cl)} (h:zbk x_ cmp_ r_):Fm Tryz.prog 174 (fun b=>v0.ownBlock=some b) [(Pd.prow En.cls 40 v0 x_),(Pd.rep EnF268 cmp_)] (fun _ s' _=>(Pd.prow En.cls 40 v0 r_).p s' v0):=by
 unfold zbk at h;refine fm_of Tryz.func174 J Tryz.ntmps174 (by rfl) (by simp) fun s0 a L=>?_;obtain ⟨r1,h2,h⟩:=h;refine rg (sA 4 L fun a s L=>?_);refine ze9 8 (fun v0=>zfa v0 h2) L (fun b h=>h) op opz J J J J kw fun a s L=>?_;refine en' ?_;subst h;exact retm J L (c:=0) J
theorem zgu (v0:Value) {s_:(List Int)} {r_:(List Int)} (h:zy s_ r_):Fm Tryz.prog 97 (fun b=>v0.ownBlock=some b) [(Pd.prow (En.int .u8) 5 v0 s_)] (fun _ s' _=>(Pd.prow (En.int .u8) 5 v0 r_).p s' v0):=by
 unfold zy at h;refine fm_of Tryz.func97 J Tryz.ntmps97 (by rfl) (by simp) fun s0 a L=>?_;obtain ⟨h1,h⟩:=h;refine rA 5 L fun a s L=>?_;refine wp_block ?_;have J3:∀(s2:(List Int)) (a:Act) (s:St),Has (fun b=>v0.ownBlock=some b) 28 s0 a s [(0,(Pd.prow (En.int .u8) 5 v0 s2))]→((zy.j1 r_) s2)→(bodyPost Tryz.prog Tryz.f97 (Pst (fun b=>v0.ownBlock=some b) (fun _ s' _=>(Pd.prow (En.int .u8) 5 v0 r_).p s' v0) s0) .normal) a s.w:=by
  intro s2 a s L h;unfold zy.j1 at h;subst h;exact retm J L (c:=0) J
 obtain ⟨k7,h⟩:=h;refine lpn (fun k8 a s=>∃(s4:(List Int)) (i5:Int) (j6:Int),Has (fun b=>v0.ownBlock=some b) 28 s0 a s [(0,(Pd.prow (En.int .u8) 5 v0 s4)),(2,(Pi i5)),(3,(Pi j6))]∧zy.l1 (zy.j1 r_) k8 s4 i5 j6) k7 ⟨s_,0,((s_.length:Int)-1),L.kk,h⟩ ?_;rintro k8 a s ⟨s4,i5,j6,L,h⟩ KL9 hKL9;unfold zy.l1 at h;refine wp_seq_k fun K10 H10=>rA 3 L fun a s L=>?_;refine cn L h (fun h=>?_) fun h=>?_
 ·refine wp_skip (H10 _ _ ?_);refine wp_seq_k fun K11 H11=>wp_block ?_;obtain ⟨e12,h13,e14,h15,e16,h17,e18,h19,h⟩:=h;refine rdf 16 zck L (by kernel_rfl) fun s _ L=>?_;refine zei 2 16 L (by rfl) (by kernel_rfl) (by kernel_rfl) (by kernel_rfl) (fun _ _ _ _ h=>h) (q:=(Pd.prow (En.int .u8) 5 v0 s4)) (ziu (O 0 J) J J) J J fun a L=>?_;refine zei 3 17 L (by rfl) (by kernel_rfl) (by kernel_rfl) (by kernel_rfl) (fun _ _ _ _ h=>h) (q:=(Pi j6)) (ziu (O 3 J) J J) J J fun a L=>?_;refine fl_go 13 [(Pd.prow (En.int .u8) 5 v0 s4),(Pi i5),(Pd.prow (En.int .u8) 5 v0 s4),(Pi j6),(Pd.prow (En.int .u8) 5 v0 s4),(Pi j6),(Pd.optr (En.int .u8) 0 v0.ownBlock ((j6:Int).toNat*(En.int .u8).sz) e12),(Pd.rep (En.int .u8) e12),(Pd.prow (En.int .u8) 5 v0 s4),(Pi i5),(Pd.optr (En.int .u8) 0 v0.ownBlock ((i5:Int).toNat*(En.int .u8).sz) e14),(Pd.rep (En.int .u8) e14),(Pd.optr (En.int .u8) 0 v0.ownBlock ((i5:Int).toNat*(En.int .u8).sz) e16)] [2,3] L (by kernel_rfl) (by kernel_rfl) (by kernel_rfl) (.cons (i:=2) J J J J (.cons (i:=3) J J J J .nil)) J J ?_ ?_
  ·refine zb9.cons (zj (O 0 J) J J) ?_;refine zb9.cons (zj (O 2 J) J J) ?_;refine zb9.skip J ?_;refine zb9.skip J ?_;refine zb9.cons (zj (O 0 J) J J) ?_;refine zb9.cons (zj (O 3 J) J J) ?_;refine zb9.cons (zea (o_p (O 18 J)) (O 19 J) h13 U29 ty5 J J) ?_;refine zb9.cons (zcr ty5 (O 20 J) J J) ?_;refine zb9.cons (zj (O 0 J) J J) ?_;refine zb9.cons (zj (O 2 J) J J) ?_;refine zb9.cons (zea (o_p (O 22 J)) (O 23 J) h15 U29 ty5 J J) ?_;refine zb9.cons (zcr ty5 (O 24 J) J J) ?_;refine zb9.cons (zea (o_p (O 14 J)) (O 15 J) h17 U29 ty5 J J) ?_;exact zb9.nil
  intro a s _ L;replace L:=L.kk (L':=[(0,(Pd.prow (En.int .u8) 5 v0 s4)),(2,(Pi i5)),(3,(Pi j6)),(16,(Pd.prow (En.int .u8) 5 v0 s4)),(17,(Pi j6)),(21,(Pd.rep (En.int .u8) e12)),(25,(Pd.rep (En.int .u8) e14)),(26,(Pd.optr (En.int .u8) 0 v0.ownBlock ((i5:Int).toNat*(En.int .u8).sz) e16))]);refine dp ?_;refine zfs (off:=0) 0 (fun b h=>h) L J h17 op op (zo _ _ _) Tq.h J J J kw fun s L=>?_;refine sl 1 (p1 h19) L fun a s L=>?_;refine zfs (off:=0) 0 (fun b h=>h) L J h19 op op (zo _ _ _) Tq.h J J J kw fun s L=>?_;refine en' (H11 _ _ ?_);obtain ⟨h20,h21,h⟩:=h;refine rg (sA 6 L fun a s L=>?_);refine en' ?_;exact hKL9 a s ⟨((s4.set (i5:Int).toNat e12).set (j6:Int).toNat e14),(i5+1),(j6-1),L.kk,h⟩
 ·refine wp_exit ?_;exact J3 s4 a s (L.kk) h
set_option maxRecDepth 100000
set_option maxHeartbeats 2000000
set_option synthInstance.maxSize 100000
set_option synthInstance.maxHeartbeats 200000
theorem zjr {a_:Cl} {cv_:Int} {r_:Bool} (h:zf2 a_ cv_ r_):Fn Tryz.prog 128 [(Pd.rep En.cls a_),(Pd.rep (En.int .u8) cv_)] (Rq (Pd.rep En.bool r_)):=by
 unfold zf2 at h;refine zbn Tryz.func128 J Tryz.ntmps128 (by rfl) (by simp) fun s0 a L=>?_;refine rA 2 L fun a s L=>?_;obtain ⟨h1,b2,h3,h⟩:=h;refine ra 10 (p1 h3) L fun a s L=>?_;subst h;exact wp_ret (zdr J L J)
theorem class_Add_ok {a_:Cl} {list_:(List Int)} {r_:Cl} (h:zc8 a_ list_ r_):Fn Tryz.prog 176 [(Pd.rep En.cls a_),(Pd.rep (En.slice (En.int .u8)) list_)] (Rq (Pd.rep En.cls r_)):=by
 unfold zc8 at h;refine zbn Tryz.func176 J Tryz.ntmps176 (by rfl) (by simp) fun s0 a L=>?_;refine rs (st_boxm 2 L op J J J J fun a s g1 hg_ L=>?_);have lt_d3:=L.blt 2 rfl;refine zz En.cls (z:=(0#256)) 4 L zk2 J J J J fun a s g2 hg_ L=>?_;have d3:=Dis.newg hg_ lt_d3;refine es (wp_seq_k fun K4 H4=>?_);refine rA 3 L fun a s L=>?_;refine wp_block ?_;have J6:∀(a5:Cl) (a:Act) (s:St),Has N0 24 s0 a s [(2,(Pd.box En.cls s0.w.heap.size g1 a5)),(4,(Pd.box En.cls s0.w.heap.size g2 (0#256)))]→Dis (some g1) (some g2)→((zc8.j1 r_) a5)→K4 a s.w:=by
  intro a5 a s L d7 h;unfold zc8.j1 at h;show K4 a s.w;refine H4 _ _ (rs ?_);refine sA 1 L fun a s L=>?_;refine sB 4 L fun s L=>?_;refine es ?_;subst h;exact wp_ret (retb J zgk L J)
 obtain ⟨k10,h⟩:=h;refine lpn (fun k11 a s=>∃(a8:Cl) (v9:Int),Has N0 24 s0 a s [(2,(Pd.box En.cls s0.w.heap.size g1 a8)),(4,(Pd.box En.cls s0.w.heap.size g2 (0#256))),(7,(Pd.rep (En.slice (En.int .u8)) list_)),(8,(Pi (list_.length:Int))),(9,(Pi v9))]∧Dis (some g1) (some g2)∧zc8.l1 list_ (zc8.j1 r_) k11 a8 v9) k10 ⟨a_,0,L.kk,(Dis.symm d3),h⟩ ?_;rintro k11 a s ⟨a8,v9,L,d13,h⟩ KL12 hKL12;unfold zc8.l1 at h;refine rA 1 L fun a s L=>?_;refine wp_seq_k fun K14 H14=>cn L h (fun h=>?_) fun h=>?_
 ·refine wp_skip (H14 _ _ ?_);refine wp_seq_k fun K15 H15=>wp_block ?_;obtain ⟨e16,h17,h⟩:=h;refine ra 3 (p1 h17) L fun a s L=>?_;obtain ⟨h18,h19,h⟩:=h;refine rg (sA 9 L fun a s L=>?_);refine zex 2 L J op op (zq6 h19) Tq.h J J J ka fun s L=>?_;refine en' (H15 _ _ ?_);obtain ⟨h20,h⟩:=h;refine rg (sA 2 L fun a s L=>?_);refine en' ?_;exact hKL12 a s ⟨(Cl.setw a8 (e16 / 64) (orI (Cl.w a8 (e16 / 64)) (shlI 1 (e16 % 64)))),(v9+1),L.kk,d13,h⟩
 ·refine wp_exit ?_;exact J6 a8 a s (L.kk) d13 h
theorem zpb {from_:Int} {to_:Int} {r_:Cl} (h:zdq from_ to_ r_):Fn Tryz.prog 129 [(Pd.rep (En.int .u8) from_),(Pd.rep (En.int .u8) to_)] (Rq (Pd.rep En.cls r_)):=by
 unfold zdq at h;refine zbn Tryz.func129 J Tryz.ntmps129 (by rfl) (by simp) fun s0 a L=>?_;refine rs (zz En.cls (z:=(0#256)) 4 L zk2 J J J J fun a s g1 hg_ L=>?_);refine es (rs ?_);have lt_d3:=L.blt 4 rfl;refine zz En.cls (z:=(0#256)) 5 L zk2 J J J J fun a s g2 hg_ L=>?_;have d3:=Dis.newg hg_ lt_d3;refine es (wp_seq_k fun K4 H4=>?_);refine rA 1 L fun a s L=>?_;refine wp_block ?_;have J6:∀(a5:Cl) (a:Act) (s:St),Has N0 27 s0 a s [(4,(Pd.box En.cls s0.w.heap.size g1 (0#256))),(5,(Pd.box En.cls s0.w.heap.size g2 a5))]→Dis (some g1) (some g2)→((zdq.j1 r_) a5)→K4 a s.w:=by
  intro a5 a s L d7 h;unfold zdq.j1 at h;show K4 a s.w;refine H4 _ _ (rs ?_);refine sA 1 L fun a s L=>?_;refine sB 4 L fun s L=>?_;refine es ?_;subst h;exact wp_ret (retb J zgk L J)
 obtain ⟨k10,h⟩:=h;refine lpn (fun k11 a s=>∃(a8:Cl) (v9:Int),Has N0 27 s0 a s [(0,(Pd.rep (En.int .u8) from_)),(1,(Pd.rep (En.int .u8) to_)),(4,(Pd.box En.cls s0.w.heap.size g1 (0#256))),(5,(Pd.box En.cls s0.w.heap.size g2 a8)),(8,(Pi v9))]∧Dis (some g1) (some g2)∧zdq.l1 from_ to_ (zdq.j1 r_) k11 a8 v9) k10 ⟨(0#256),0,L.kk,(Dis.symm d3),h⟩ ?_;rintro k11 a s ⟨a8,v9,L,d13,h⟩ KL12 hKL12;unfold zdq.l1 at h;refine rA 1 L fun a s L=>?_;refine wp_seq_k fun K14 H14=>cn L h (fun h=>?_) fun h=>?_
 ·refine wp_skip (H14 _ _ ?_);refine wp_seq_k fun K15 H15=>wp_block (rA 2 L fun a s L=>?_);refine rA 3 L fun a s L=>?_;obtain ⟨b16,h17,h⟩:=h;refine ra 8 (p1 h17) L fun a s L=>?_;refine cn L h (fun h=>?_) fun h=>?_
  ·obtain ⟨r18,h19,h⟩:=h;refine rg (sl 4 (p1 (class_Add_ok h19)) L fun a s L=>?_);refine sB 5 L fun s L=>?_;refine en' (H15 _ _ ?_);obtain ⟨h20,h⟩:=h;refine rg (sA 2 L fun a s L=>?_);refine en' ?_;exact hKL12 a s ⟨r18,(v9+1),L.kk,d13,h⟩
  ·refine wp_skip (H15 _ _ ?_);obtain ⟨h21,h⟩:=h;refine rg (sA 2 L fun a s L=>?_);refine en' ?_;exact hKL12 a s ⟨a8,(v9+1),L.kk,d13,h⟩
 ·refine wp_exit ?_;exact J6 a8 a s (L.kk) d13 h
theorem zmt {a_:Cl} {r_:Cl} (h:zc7 a_ r_):Fn Tryz.prog 126 [(Pd.rep En.cls a_)] (Rq (Pd.rep En.cls r_)):=by
 unfold zc7 at h;refine zbn Tryz.func126 J Tryz.ntmps126 (by rfl) (by simp) fun s0 a L=>?_;refine rs (st_boxm 1 L op J J J J fun a s g1 hg_ L=>?_);have lt_d3:=L.blt 1 rfl;refine zz En.cls (z:=(0#256)) 2 L zk2 J J J J fun a s g2 hg_ L=>?_;have d3:=Dis.newg hg_ lt_d3;refine es (wp_seq_k fun K4 H4=>?_);refine rA 1 L fun a s L=>?_;refine wp_block ?_;have J6:∀(a5:Cl) (a:Act) (s:St),Has N0 15 s0 a s [(1,(Pd.box En.cls s0.w.heap.size g1 a5)),(2,(Pd.box En.cls s0.w.heap.size g2 (0#256)))]→Dis (some g1) (some g2)→((zc7.j1 r_) a5)→K4 a s.w:=by
  intro a5 a s L d7 h;unfold zc7.j1 at h;show K4 a s.w;refine H4 _ _ (rs ?_);refine sA 1 L fun a s L=>?_;refine sB 2 L fun s L=>?_;refine es ?_;subst h;exact wp_ret (retb J zgk L J)
 obtain ⟨k10,h⟩:=h;refine lpn (fun k11 a s=>∃(a8:Cl) (v9:Int),Has N0 15 s0 a s [(1,(Pd.box En.cls s0.w.heap.size g1 a8)),(2,(Pd.box En.cls s0.w.heap.size g2 (0#256))),(4,(Pi v9))]∧Dis (some g1) (some g2)∧zc7.l1 (zc7.j1 r_) k11 a8 v9) k10 ⟨a_,0,L.kk,(Dis.symm d3),h⟩ ?_;rintro k11 a s ⟨a8,v9,L,d13,h⟩ KL12 hKL12;unfold zc7.l1 at h;refine rA 1 L fun a s L=>?_;refine wp_seq_k fun K14 H14=>cn L h (fun h=>?_) fun h=>?_
 ·refine wp_skip (H14 _ _ ?_);refine wp_seq_k fun K15 H15=>wp_block (rA 2 L fun a s L=>?_);obtain ⟨h16,h17,h⟩:=h;refine rg (sA 4 L fun a s L=>?_);refine sv (t_com op J J) L fun a s L=>?_;refine sA 1 L fun a s L=>?_;refine zex 1 L J op op (zq6 h17) Tq.h J J J ka fun s L=>?_;refine en' (H15 _ _ ?_);obtain ⟨h18,h⟩:=h;refine rg (sA 2 L fun a s L=>?_);refine en' ?_;exact hKL12 a s ⟨(Cl.setw a8 v9 (xorI 18446744073709551615 (Cl.w a8 v9))),(v9+1),L.kk,d13,h⟩
 ·refine wp_exit ?_;exact J6 a8 a s (L.kk) d13 h
theorem zln {a_:Cl} {b_:Cl} {r_:Cl} (h:zcq a_ b_ r_):Fn Tryz.prog 171 [(Pd.rep En.cls a_),(Pd.rep En.cls b_)] (Rq (Pd.rep En.cls r_)):=by
 unfold zcq at h;refine zbn Tryz.func171 J Tryz.ntmps171 (by rfl) (by simp) fun s0 a L=>?_;refine rs (st_boxm 2 L op J J J J fun a s g1 hg_ L=>?_);refine sA 1 L fun a s L=>?_;have lt_d3:=L.blt 2 rfl;refine zz En.cls (z:=(0#256)) 4 L zk2 J J J J fun a s g2 hg_ L=>?_;have d3:=Dis.newg hg_ lt_d3;refine es (wp_seq_k fun K4 H4=>?_);refine rA 1 L fun a s L=>?_;refine wp_block ?_;have J6:∀(a5:Cl) (a:Act) (s:St),Has N0 19 s0 a s [(2,(Pd.box En.cls s0.w.heap.size g1 a5)),(4,(Pd.box En.cls s0.w.heap.size g2 (0#256)))]→Dis (some g1) (some g2)→((zcq.j1 r_) a5)→K4 a s.w:=by
  intro a5 a s L d7 h;unfold zcq.j1 at h;show K4 a s.w;refine H4 _ _ (rs ?_);refine sA 1 L fun a s L=>?_;refine sB 4 L fun s L=>?_;refine es ?_;subst h;exact wp_ret (retb J zgk L J)
 obtain ⟨k10,h⟩:=h;refine lpn (fun k11 a s=>∃(a8:Cl) (v9:Int),Has N0 19 s0 a s [(2,(Pd.box En.cls s0.w.heap.size g1 a8)),(3,(Pd.ptr En.cls b_)),(4,(Pd.box En.cls s0.w.heap.size g2 (0#256))),(6,(Pi v9))]∧Dis (some g1) (some g2)∧zcq.l1 b_ (zcq.j1 r_) k11 a8 v9) k10 ⟨a_,0,L.kk,(Dis.symm d3),h⟩ ?_;rintro k11 a s ⟨a8,v9,L,d13,h⟩ KL12 hKL12;unfold zcq.l1 at h;refine rA 1 L fun a s L=>?_;refine wp_seq_k fun K14 H14=>cn L h (fun h=>?_) fun h=>?_
 ·refine wp_skip (H14 _ _ ?_);refine wp_seq_k fun K15 H15=>wp_block (rA 2 L fun a s L=>?_);obtain ⟨h16,h17,h18,h⟩:=h;refine rdx 8 trivial L fun a s L=>?_;refine zex 2 L J op op (zq6 h18) Tq.h J J J ka fun s L=>?_;refine en' (H15 _ _ ?_);obtain ⟨h19,h⟩:=h;refine rg (sA 2 L fun a s L=>?_);refine en' ?_;exact hKL12 a s ⟨(Cl.setw a8 v9 (andI (Cl.w a8 v9) (Cl.w b_ v9))),(v9+1),L.kk,d13,h⟩
 ·refine wp_exit ?_;exact J6 a8 a s (L.kk) d13 h
theorem zp2 {a_:Cl} {r_:Int} (h:zb5 a_ r_):Fn Tryz.prog 172 [(Pd.rep En.cls a_)] (Rq (Pi r_)):=by
 unfold zb5 at h;refine zbn Tryz.func172 J Tryz.ntmps172 (by rfl) (by simp) fun s0 a L=>?_;refine rA 2 L fun a s L=>?_;refine rA 1 L fun a s L=>?_;refine wp_seq_k fun K1 H1=>rA 1 L fun a s L=>?_;refine wp_block ?_;have J3:∀(n2:Int) (a:Act) (s:St),Has N0 16 s0 a s [(3,(Pi n2))]→((zb5.j1 r_) n2)→K1 a s.w:=by
  intro n2 a s L h;unfold zb5.j1 at h;show K1 a s.w;refine H1 _ _ (rA 2 L fun a s L=>?_);subst h;exact wp_ret (zdr J L J)
 obtain ⟨k6,h⟩:=h;refine lpn (fun k7 a s=>∃(n4:Int) (v5:Int),Has N0 16 s0 a s [(1,(Pd.ptr En.cls a_)),(3,(Pi n4)),(5,(Pi v5))]∧zb5.l1 a_ (zb5.j1 r_) k7 n4 v5) k6 ⟨0,0,L.kk,h⟩ ?_;rintro k7 a s ⟨n4,v5,L,h⟩ KL8 hKL8;unfold zb5.l1 at h;refine rA 1 L fun a s L=>?_;refine wp_seq_k fun K9 H9=>cn L h (fun h=>?_) fun h=>?_
 ·refine wp_skip (H9 _ _ ?_);refine wp_seq_k fun K10 H10=>wp_block (rA 2 L fun a s L=>?_);obtain ⟨r11,h12,h⟩:=h;refine ra 4 (p1 (zjr h12)) L fun a s L=>?_;refine cn L h (fun h=>?_) fun h=>?_
  ·obtain ⟨h13,h⟩:=h;refine rg (sA 3 L fun a s L=>?_);refine en' (H10 _ _ ?_);obtain ⟨h14,h⟩:=h;refine rg (sA 2 L fun a s L=>?_);refine en' ?_;exact hKL8 a s ⟨(n4+1),(v5+1),L.kk,h⟩
  ·refine wp_skip (H10 _ _ ?_);obtain ⟨h15,h⟩:=h;refine rg (sA 2 L fun a s L=>?_);refine en' ?_;exact hKL8 a s ⟨n4,(v5+1),L.kk,h⟩
 ·refine wp_exit ?_;exact J3 n4 a s (L.kk) h
theorem zkn {a_:Cl} {r_:(Int × Bool)} (h:zb0 a_ r_):Fn Tryz.prog 106 [(Pd.rep En.cls a_)] (Rq2 (Pd.rep (En.int .u8) r_.1) (Pd.rep En.bool r_.2)):=by
 unfold zb0 at h;refine zbn Tryz.func106 J Tryz.ntmps106 (by rfl) (by simp) fun s0 a L=>?_;refine rA 3 L fun a s L=>?_;refine wp_seq_k fun K1 H1=>rA 1 L fun a s L=>?_;refine wp_block ?_;have J2:∀(a:Act) (s:St),Has N0 15 s0 a s []→((zb0.j1 r_))→K1 a s.w:=by
  intro a s L h;unfold zb0.j1 at h;show K1 a s.w;refine H1 _ _ (rA 2 L fun a s L=>?_);subst h;exact wp_ret (ret2 J L J J)
 obtain ⟨k4,h⟩:=h;refine lpn (fun k5 a s=>∃(v3:Int),Has N0 15 s0 a s [(1,(Pd.ptr En.cls a_)),(5,(Pi v3))]∧zb0.l1 a_ r_ (zb0.j1 r_) k5 v3) k4 ⟨0,L.kk,h⟩ ?_;rintro k5 a s ⟨v3,L,h⟩ KL6 hKL6;unfold zb0.l1 at h;refine rA 1 L fun a s L=>?_;refine wp_seq_k fun K7 H7=>cn L h (fun h=>?_) fun h=>?_
 ·refine wp_skip (H7 _ _ ?_);refine wp_seq_k fun K8 H8=>wp_block (rA 2 L fun a s L=>?_);obtain ⟨r9,h10,h⟩:=h;refine ra 4 (p1 (zjr h10)) L fun a s L=>?_;refine cn L h (fun h=>?_) fun h=>?_
  ·refine rA 4 L fun a s L=>?_;subst h;exact wp_ret (ret2 J L J J)
  ·refine wp_skip (H8 _ _ ?_);obtain ⟨h11,h⟩:=h;refine rg (sA 2 L fun a s L=>?_);refine en' ?_;exact hKL6 a s ⟨(v3+1),L.kk,h⟩
 ·refine wp_exit ?_;exact J2 a s (L.kk) h
theorem ref01_Of_ok {l_:(List Bool)} {r_:Cl} (h:zbp l_ r_):Fn Tryz.prog 71 [(Pd.rep (En.slice En.bool) l_)] (Rq (Pd.rep En.cls r_)):=by
 unfold zbp at h;refine zbn Tryz.func71 J Tryz.ntmps71 (by rfl) (by simp) fun s0 a L=>?_;refine rs (zz En.cls (z:=(0#256)) 2 L zk2 J J J J fun a s g1 hg_ L=>?_);refine es (rs ?_);have lt_d3:=L.blt 2 rfl;refine zz En.cls (z:=(0#256)) 3 L zk2 J J J J fun a s g2 hg_ L=>?_;have d3:=Dis.newg hg_ lt_d3;refine es (wp_seq_k fun K4 H4=>?_);refine rA 1 L fun a s L=>?_;refine wp_block ?_;have J6:∀(a5:Cl) (a:Act) (s:St),Has N0 32 s0 a s [(2,(Pd.box En.cls s0.w.heap.size g1 (0#256))),(3,(Pd.box En.cls s0.w.heap.size g2 a5))]→Dis (some g1) (some g2)→((zbp.j1 r_) a5)→K4 a s.w:=by
  intro a5 a s L d7 h;unfold zbp.j1 at h;show K4 a s.w;refine H4 _ _ (rs ?_);refine sA 1 L fun a s L=>?_;refine sB 2 L fun s L=>?_;refine es ?_;subst h;exact wp_ret (retb J zgk L J)
 obtain ⟨k10,h⟩:=h;refine lpn (fun k11 a s=>∃(a8:Cl) (w9:Int),Has N0 32 s0 a s [(0,(Pd.rep (En.slice En.bool) l_)),(2,(Pd.box En.cls s0.w.heap.size g1 (0#256))),(3,(Pd.box En.cls s0.w.heap.size g2 a8)),(4,(Pi w9))]∧Dis (some g1) (some g2)∧zbp.l1 l_ (zbp.j1 r_) k11 a8 w9) k10 ⟨(0#256),0,L.kk,(Dis.symm d3),h⟩ ?_;rintro k11 a s ⟨a8,w9,L,d13,h⟩ KL12 hKL12;unfold zbp.l1 at h;refine wp_seq_k fun K14 H14=>rA 2 L fun a s L=>?_;refine cn L h (fun h=>?_) fun h=>?_
 ·refine wp_skip (H14 _ _ ?_);refine wp_seq_k fun K15 H15=>wp_block (rA 1 L fun a s L=>?_);refine rA 1 L fun a s L=>?_;refine wp_block ?_;have J17:∀(a16:Cl) (a:Act) (s:St),Has N0 32 s0 a s [(0,(Pd.rep (En.slice En.bool) l_)),(2,(Pd.box En.cls s0.w.heap.size g1 (0#256))),(3,(Pd.box En.cls s0.w.heap.size g2 a16)),(4,(Pi w9))]→Dis (some g1) (some g2)→((zbp.j2 (zbp.l1 l_ (zbp.j1 r_) k11) w9) a16)→K15 a s.w:=by
   intro a16 a s L d18 h;unfold zbp.j2 at h;show K15 a s.w;refine H15 _ _ ?_;obtain ⟨h19,h⟩:=h;refine rg (sA 3 L fun a s L=>?_);refine en' ?_;exact hKL12 a s ⟨a16,(w9+1),L.kk,d18,h⟩
  obtain ⟨k23,h⟩:=h;refine lpn (fun k24 a s=>∃(a20:Cl) (bit21:Int) (i22:Int),Has N0 32 s0 a s [(0,(Pd.rep (En.slice En.bool) l_)),(2,(Pd.box En.cls s0.w.heap.size g1 (0#256))),(3,(Pd.box En.cls s0.w.heap.size g2 a20)),(4,(Pi w9)),(5,(Pd.rep (En.int .u64) bit21)),(6,(Pi i22))]∧Dis (some g1) (some g2)∧zbp.l2 l_ w9 (zbp.j2 (zbp.l1 l_ (zbp.j1 r_) k11) w9) k24 a20 bit21 i22) k23 ⟨a8,1,0,L.kk,d13,h⟩ ?_;rintro k24 a s ⟨a20,bit21,i22,L,d26,h⟩ KL25 hKL25;unfold zbp.l2 at h;refine wp_seq_k fun K27 H27=>rA 2 L fun a s L=>?_;refine cn L h (fun h=>?_) fun h=>?_
  ·refine wp_skip (H27 _ _ ?_);refine wp_seq_k fun K28 H28=>wp_block (wp_seq_k fun K29 H29=>?_);obtain ⟨h30,h31,e32,h33,h⟩:=h;refine ra 7 (p1 h33) L fun a s L=>?_;refine cn L h (fun h=>?_) fun h=>?_
   ·obtain ⟨h34,h35,h⟩:=h;refine rg (sA 7 L fun a s L=>?_);refine zex 3 L J op op (zq6 h35) Tq.h J J J ka fun s L=>?_;refine en' (H29 _ _ ?_);refine rg (sA 3 L fun a s L=>?_);refine en' (H28 _ _ ?_);obtain ⟨h36,h⟩:=h;refine rg (sA 3 L fun a s L=>?_);refine en' ?_;exact hKL25 a s ⟨(Cl.setw a20 w9 (IntKind.wrap .u64 ((Cl.w a20 w9)+bit21))),(IntKind.wrap .u64 (bit21*2)),(i22+1),L.kk,d26,h⟩
   ·refine wp_skip (H29 _ _ ?_);refine rg (sA 3 L fun a s L=>?_);refine en' (H28 _ _ ?_);obtain ⟨h37,h⟩:=h;refine rg (sA 3 L fun a s L=>?_);refine en' ?_;exact hKL25 a s ⟨a20,(IntKind.wrap .u64 (bit21*2)),(i22+1),L.kk,d26,h⟩
  ·refine wp_exit ?_;exact J17 a20 a s (L.kk) d26 h
 ·refine wp_exit ?_;exact J6 a8 a s (L.kk) d13 h
theorem ref01_Row_ok {from_:Int} {to_:Int} {r_:Cl} (h:zcz from_ to_ r_):Fn Tryz.prog 44 [(Pd.rep (En.int .u8) from_),(Pd.rep (En.int .u8) to_)] (Rq (Pd.rep En.cls r_)):=by
 unfold zcz at h;refine zbn Tryz.func44 J Tryz.ntmps44 (by rfl) (by simp) fun s0 a L=>?_;refine rs (zz En.cls (z:=(0#256)) 4 L zk2 J J J J fun a s g1 hg_ L=>?_);refine es (rs ?_);have lt_d3:=L.blt 4 rfl;refine st_make En.bool (z:=false) (m:=256) 7 L op op (by decide) Ud.h Tq.h tyz4 J J J J fun a s g2 hg_ L=>?_;have d3:=Dis.newg hg_ lt_d3;refine sA 1 L fun a s L=>?_;refine es (wp_seq_k fun K4 H4=>?_);refine rA 3 L fun a s L=>?_;refine wp_block ?_;have J7:∀(l5:(List Bool)) (og6:Option Nat) (a:Act) (s:St),Has N0 21 s0 a s [(4,(Pd.box En.cls s0.w.heap.size g1 (0#256))),(5,(Pd.row En.bool s0.w.heap.size 4 og6 l5))]→Dis (some g1) og6→((zcz.j1 r_) l5)→K4 a s.w:=by
  intro l5 og6 a s L d8 h;unfold zcz.j1 at h;show K4 a s.w;refine H4 _ _ (fzc 5 L fun s L=>?_);obtain ⟨r9,h10,h⟩:=h;refine rs (sl 2 (p1 (ref01_Of_ok h10)) L fun a s L=>?_);refine sB 4 L fun s L=>?_;refine es ?_;subst h;exact wp_ret (retb J zgk L J)
 obtain ⟨k14,h⟩:=h;refine lpn (fun k15 a s=>∃(l11:(List Bool)) (i13:Int) (og12:Option Nat),Has N0 21 s0 a s [(1,(Pd.rep (En.int .u8) to_)),(4,(Pd.box En.cls s0.w.heap.size g1 (0#256))),(5,(Pd.row En.bool s0.w.heap.size 4 og12 l11)),(6,(Pi i13))]∧Dis (some g1) og12∧zcz.l1 to_ (zcz.j1 r_) k15 l11 i13) k14 ⟨(List.replicate 256 false),from_,(some g2),L.kk,(Dis.symm d3),h⟩ ?_;rintro k15 a s ⟨l11,i13,og12,L,d17,h⟩ KL16 hKL16;unfold zcz.l1 at h;refine wp_seq_k fun K18 H18=>rA 4 L fun a s L=>?_;refine cn L h (fun h=>?_) fun h=>?_
 ·refine wp_skip (H18 _ _ ?_);refine wp_seq_k fun K19 H19=>wp_block ?_;obtain ⟨e20,h21,h⟩:=h;refine rg (sl 3 (p1 h21) L fun a s L=>?_);refine zgr (off:=0) 5 L J h21 op o_b (zo _ _ _) Tq.h J J J kw fun s L=>?_;refine en' (H19 _ _ ?_);obtain ⟨h22,h⟩:=h;refine rg (sA 3 L fun a s L=>?_);refine en' ?_;exact hKL16 a s ⟨(l11.set (i13:Int).toNat true),(i13+1),og12,L.kk,d17,h⟩
 ·refine wp_exit ?_;exact J7 l11 og12 a s (L.kk) d17 h
theorem ref01_Has_ok {a_:Cl} {cv_:Int} {r_:Bool} (h:zc0 a_ cv_ r_):Fn Tryz.prog 77 [(Pd.rep En.cls a_),(Pd.rep (En.int .u8) cv_)] (Rq (Pd.rep En.bool r_)):=by
 unfold zc0 at h;refine zbn Tryz.func77 J Tryz.ntmps77 (by rfl) (by simp) fun s0 a L=>?_;refine rA 2 L fun a s L=>?_;obtain ⟨h1,h2,h⟩:=h;refine rA 6 L fun a s L=>?_;refine wp_seq_k fun K3 H3=>rA 1 L fun a s L=>?_;refine wp_block ?_;have J5:∀(w4:Int) (a:Act) (s:St),Has N0 24 s0 a s [(5,(Pd.rep (En.int .u64) w4))]→((zc0.j1 r_) w4)→K3 a s.w:=by
  intro w4 a s L h;unfold zc0.j1 at h;show K3 a s.w;refine H3 _ _ (rA 4 L fun a s L=>?_);subst h;exact wp_ret (zdr J L J)
 obtain ⟨k8,h⟩:=h;refine lpn (fun k9 a s=>∃(w6:Int) (i7:Int),Has N0 24 s0 a s [(1,(Pd.rep (En.int .u8) cv_)),(5,(Pd.rep (En.int .u64) w6)),(6,(Pi i7))]∧zc0.l1 cv_ (zc0.j1 r_) k9 w6 i7) k8 ⟨(Cl.w a_ (cv_ / 64)),0,L.kk,h⟩ ?_;rintro k9 a s ⟨w6,i7,L,h⟩ KL10 hKL10;unfold zc0.l1 at h;refine wp_seq_k fun K11 H11=>?_;obtain ⟨h12,h⟩:=h;refine rA 5 L fun a s L=>?_;refine cn L h (fun h=>?_) fun h=>?_
 ·refine wp_skip (H11 _ _ ?_);refine wp_seq_k fun K13 H13=>wp_block (rg ?_);refine sA 3 L fun a s L=>?_;refine en' (H13 _ _ ?_);obtain ⟨h14,h⟩:=h;refine rg (sA 3 L fun a s L=>?_);refine en' ?_;exact hKL10 a s ⟨(w6 / 2),(i7+1),L.kk,h⟩
 ·refine wp_exit ?_;exact J5 w6 a s (L.kk) h
set_option maxRecDepth 100000
set_option maxHeartbeats 2000000
set_option synthInstance.maxSize 100000
set_option synthInstance.maxHeartbeats 200000
theorem zlz {a_:Cl} {r_:Int} (h:zeb a_ r_):Fn Tryz.prog 173 [(Pd.rep En.cls a_)] (Rq (Pi r_)):=by
 unfold zeb at h;refine zbn Tryz.func173 J Tryz.ntmps173 (by rfl) (by simp) fun s0 a L=>?_;refine rA 2 L fun a s L=>?_;obtain ⟨r1,h2,h⟩:=h;refine ra 7 (p1 ((zkn h2).tup)) L fun a s L=>?_;refine rA 3 L fun a s L=>?_;subst h;exact wp_ret (zdr J L J)
theorem zly {a_:Cl} {b_:Cl} {cap0_:(Cl × Int→Prop)} {r_:Int} (h:zer a_ b_ cap0_ r_):Fn Tryz.prog 175 [(Pd.rep En.cls a_),(Pd.rep En.cls b_),(Pd.ptr EnF266 cap0_)] (Rq (Pi r_)):=by
 unfold zer at h;refine zbn Tryz.func175 J Tryz.ntmps175 (by rfl) (by simp) fun s0 a L=>?_;refine rA 3 L fun a s L=>?_;obtain ⟨r1,h2,r3,h4,h5,h⟩:=h;refine wp_seq (rda zck 7 [(Pd.rep EnF266 cap0_),(Pd.rep En.cls a_),(Pi r1),(Pd.rep EnF266 cap0_),(Pd.rep En.cls b_),(Pi r3),(Pi (r1-r3))] L (by kernel_rfl) J J ?_ ?_)
 ·refine zbe.cons (zw ty266 (O 2 J) J J) ?_;refine zbe.cons (zw zgk (O 3 J) J J) ?_;refine zbe.cons (zgq (q:=(a_,r1)) (O 6 J) h2 (xs:=[.tmp 7]) (.cons (O 7 J) .nil) (fun _ _ _ h_=>h_) J J) ?_;refine zbe.cons (zw ty266 (O 2 J) J J) ?_;refine zbe.cons (zw zgk (O 4 J) J J) ?_;refine zbe.cons (zgq (q:=(b_,r3)) (O 9 J) h4 (xs:=[.tmp 10]) (.cons (O 10 J) .nil) (fun _ _ _ h_=>h_) J J) ?_;refine zbe.cons (zlw (O 8 J) (O 11 J) h5 J J) ?_;exact zbe.nil
 intro a s _ L;replace L:=L.kk (L':=[(5,(Pi 0)),(12,(Pi (r1-r3)))]);refine dp ?_;refine sA 1 L fun a s L=>?_;refine es ?_;subst h;exact wp_ret (zdr J L J)
theorem zn4 {parts_:(List Cl)} {a_:Cl} {r_:(List Cl)} (h:zbc parts_ a_ r_):Fn Tryz.prog 127 [(Pd.rep (En.slice En.cls) parts_),(Pd.rep En.cls a_)] (Ro En.cls 40 r_):=by
 unfold zbc at h;refine zbn Tryz.func127 J Tryz.ntmps127 (by rfl) (by simp) fun s0 a L=>?_;refine rs (sA 1 L fun a s L=>?_);refine sno En.cls 40 L fun a s L=>?_;refine es (rs ?_);refine sno En.cls 40 L fun a s L=>?_;refine es (wp_seq_k fun K1 H1=>?_);refine rA 3 L fun a s L=>?_;refine wp_block ?_;have J4:∀(out2:(List Cl)) (og3:Option Nat) (a:Act) (s:St),Has N0 43 s0 a s [(5,(Pd.row En.cls s0.w.heap.size 40 og3 out2))]→((zbc.j1 r_) out2)→K1 a s.w:=by
  intro out2 og3 a s L h;unfold zbc.j1 at h;show K1 a s.w;refine H1 _ _ (rs ?_);have lt_d6:=L.rlt 5 rfl;refine zz EnF266 (z:=(fun _=>False)) 10 L tyz266 J J J J fun a s g5 hg_ L=>?_;have d6:=Dis.newg hg_ lt_d6;refine zgs 10 L J (o_q (Pd.rep EnF266 (fun q_=>zeb q_.1 q_.2)) (o_fun (ze1 Tryz.func173 J (by rfl)) (fun q_ h_=>zlz h_))) Tq.h J J J ka fun s L=>?_;refine es (fbc 10 L fun s L=>?_);obtain ⟨r7,h8,h⟩:=h;refine rs (sA 1 L fun a s L=>?_);refine sv (t_q (Pd.rep EnF268 (fun q_=>zer q_.1 q_.2.1 (fun q_=>zeb q_.1 q_.2) q_.2.2)) (t_mkfun (cs:=[.tmp 10]) (.cons op .nil) (ze1 Tryz.func175 J (by rfl)) (zfw zjq zf9) (fun q_ h_=>zly h_) J J)) L fun a s L=>?_;refine zjw 41 (fun v0=>zdy v0 h8) L op opz J J J J kw fun a s L=>?_;refine es (rA 2 L fun a s L=>?_);subst h;exact wp_ret (zf3 J L J)
 obtain ⟨k12,h⟩:=h;refine lpn (fun k13 a s=>∃(out9:(List Cl)) (v11:Int) (og10:Option Nat),Has N0 43 s0 a s [(3,(Pd.ptr En.cls a_)),(5,(Pd.row En.cls s0.w.heap.size 40 og10 out9)),(11,(Pd.rep (En.slice En.cls) parts_)),(12,(Pi (parts_.length:Int))),(13,(Pi v11))]∧zbc.l1 parts_ a_ (zbc.j1 r_) k13 out9 v11) k12 ⟨([]:(List Cl)),0,none,L.kk,h⟩ ?_;rintro k13 a s ⟨out9,v11,og10,L,h⟩ KL14 hKL14;unfold zbc.l1 at h;refine rA 1 L fun a s L=>?_;refine wp_seq_k fun K15 H15=>cn L h (fun h=>?_) fun h=>?_
 ·refine wp_skip (H15 _ _ ?_);refine wp_seq_k fun K16 H16=>wp_block ?_;obtain ⟨e17,h18,h⟩:=h;refine rs (sl 2 (p1 h18) L fun a s L=>?_);have lt_d20:=L.rlt 5 rfl;refine zz En.cls (z:=(0#256)) 7 L zk2 J J J J fun a s g19 hg_ L=>?_;have d20:=Dis.newg hg_ lt_d20;refine sB 7 L fun s L=>?_;refine es ?_;obtain ⟨r21,h22,r23,h24,r25,h26,h⟩:=h;refine wp_seq (rdx 10 (pp (zln h22) (pp (zmt h24) (p1 (zln h26)))) L fun a s L=>?_);refine es (wp_block ?_);have J29:∀(out27:(List Cl)) (og28:Option Nat) (a:Act) (s:St),Has N0 43 s0 a s [(3,(Pd.ptr En.cls a_)),(5,(Pd.row En.cls s0.w.heap.size 40 og28 out27)),(11,(Pd.rep (En.slice En.cls) parts_)),(12,(Pi (parts_.length:Int))),(13,(Pi v11))]→((zbc.j2 (zbc.l1 parts_ a_ (zbc.j1 r_) k13) v11) out27)→K16 a s.w:=by
   intro out27 og28 a s L h;unfold zbc.j2 at h;show K16 a s.w;refine H16 _ _ ?_;obtain ⟨h30,h⟩:=h;refine rg (sA 2 L fun a s L=>?_);refine en' ?_;exact hKL14 a s ⟨out27,(v11+1),og28,L.kk,h⟩
  obtain ⟨k34,h⟩:=h;refine lpn (fun k35 a s=>∃(out31:(List Cl)) (v33:Int) (og32:Option Nat),Has N0 43 s0 a s [(3,(Pd.ptr En.cls a_)),(5,(Pd.row En.cls s0.w.heap.size 40 og32 out31)),(11,(Pd.rep (En.slice En.cls) parts_)),(12,(Pi (parts_.length:Int))),(13,(Pi v11)),(24,(Pd.rep (En.slice En.cls) [r21,r25])),(25,(Pi ([r21,r25].length:Int))),(26,(Pi v33))]∧zbc.l2 r21 r25 (zbc.j2 (zbc.l1 parts_ a_ (zbc.j1 r_) k13) v11) k35 out31 v33) k34 ⟨out9,0,og10,L.kk,h⟩ ?_;rintro k35 a s ⟨out31,v33,og32,L,h⟩ KL36 hKL36;unfold zbc.l2 at h;refine rA 1 L fun a s L=>?_;refine wp_seq_k fun K37 H37=>cn L h (fun h=>?_) fun h=>?_
  ·refine wp_skip (H37 _ _ ?_);refine wp_seq_k fun K38 H38=>wp_block ?_;obtain ⟨e39,h40,h⟩:=h;refine rs (sl 2 (p1 h40) L fun a s L=>?_);have lt_d42:=L.rlt 5 rfl;refine zz En.cls (z:=(0#256)) 9 L zk2 J J J J fun a s g41 hg_ L=>?_;have d42:=Dis.newg hg_ lt_d42;refine sB 9 L fun s L=>?_;refine es ?_;obtain ⟨r43,h44,h⟩:=h;refine ra 3 (p1 (zp2 h44)) L fun a s L=>?_;refine cn L h (fun h=>?_) fun h=>?_
   ·obtain ⟨h45,h⟩:=h;refine rg (sA 3 L fun a s L=>?_);refine zdx 36 L op op Ud.h Tq.h h45 J J J J ka fun a s og46 hg_ L=>?_;refine sA 1 L fun a s L=>?_;refine en' (H38 _ _ ?_);obtain ⟨h47,h⟩:=h;refine rg (sA 2 L fun a s L=>?_);refine en' ?_;exact hKL36 a s ⟨(out31++[e39]),(v33+1),og46,L.kk,h⟩
   ·refine wp_skip (H38 _ _ ?_);obtain ⟨h48,h⟩:=h;refine rg (sA 2 L fun a s L=>?_);refine en' ?_;exact hKL36 a s ⟨out31,(v33+1),og32,L.kk,h⟩
  ·refine wp_exit ?_;exact J29 out31 og32 a s (L.kk) h
 ·refine wp_exit ?_;exact J4 out9 og10 a s (L.kk) h
theorem zpo {list_:(List Cl)} {r_:(List Cl)} (h:zca list_ r_):Fn Tryz.prog 105 [(Pd.rep (En.slice En.cls) list_)] (Ro En.cls 40 r_):=by
 unfold zca at h;refine zbn Tryz.func105 J Tryz.ntmps105 (by rfl) (by simp) fun s0 a L=>?_;refine rs (sno En.cls 40 L fun a s L=>?_);refine es ?_;obtain ⟨r1,h2,h⟩:=h;refine rs (sv (t_bcls (x:=(0#256)) Ud.h (by rfl) zk2 (fun _=>by kernel_rfl) J J) L fun a s L=>?_);refine sl 1 (p1 (zmt h2)) L fun a s L=>?_;refine zf5 (xs:=[.tmp 7]) 8 L (.cons op .nil) Ud.h Tq.h J J (by decide) J J J J fun a s g3 hg_ L=>?_;refine sA 1 L fun a s L=>?_;refine es (wp_seq_k fun K4 H4=>?_);refine rA 3 L fun a s L=>?_;refine wp_block ?_;have J7:∀(out5:(List Cl)) (og6:Option Nat) (a:Act) (s:St),Has N0 20 s0 a s [(3,(Pd.row En.cls s0.w.heap.size 40 og6 out5))]→((zca.j1 r_) out5)→K4 a s.w:=by
  intro out5 og6 a s L h;unfold zca.j1 at h;show K4 a s.w;refine H4 _ _ (rA 2 L fun a s L=>?_);subst h;exact wp_ret (zf3 J L J)
 obtain ⟨k11,h⟩:=h;refine lpn (fun k12 a s=>∃(out8:(List Cl)) (v10:Int) (og9:Option Nat),Has N0 20 s0 a s [(3,(Pd.row En.cls s0.w.heap.size 40 og9 out8)),(9,(Pd.rep (En.slice En.cls) list_)),(10,(Pi (list_.length:Int))),(11,(Pi v10))]∧zca.l1 list_ (zca.j1 r_) k12 out8 v10) k11 ⟨[r1],0,(some g3),L.kk,h⟩ ?_;rintro k12 a s ⟨out8,v10,og9,L,h⟩ KL13 hKL13;unfold zca.l1 at h;refine rA 1 L fun a s L=>?_;refine wp_seq_k fun K14 H14=>cn L h (fun h=>?_) fun h=>?_
 ·refine wp_skip (H14 _ _ ?_);refine wp_seq_k fun K15 H15=>wp_block ?_;obtain ⟨e16,h17,h⟩:=h;refine rs (sl 2 (p1 h17) L fun a s L=>?_);have lt_d19:=L.rlt 3 rfl;refine zz En.cls (z:=(0#256)) 5 L zk2 J J J J fun a s g18 hg_ L=>?_;have d19:=Dis.newg hg_ lt_d19;refine sB 5 L fun s L=>?_;refine es (fzc 3 L fun s L=>?_);obtain ⟨r20,h21,h⟩:=h;refine rg (sA 2 L fun a s L=>?_);have lt_d23:=L.blt 5 rfl;refine zcs 17 L (zn4 h21) opz J J J J fun a s og22 hg_ L=>?_;have d23:=Dis.new hg_ lt_d23;refine sA 1 L fun a s L=>?_;refine en' (H15 _ _ ?_);obtain ⟨h24,h⟩:=h;refine rg (sA 2 L fun a s L=>?_);refine en' ?_;exact hKL13 a s ⟨r20,(v10+1),og22,L.kk,h⟩
 ·refine wp_exit ?_;exact J7 out8 og9 a s (L.kk) h
theorem zpq {list_:(List Cl)} {r_:(List Int)} (h:zcb list_ r_):Fn Tryz.prog 84 [(Pd.rep (En.slice En.cls) list_)] (Ro (En.int .u8) 5 r_):=by
 unfold zcb at h;refine zbn Tryz.func84 J Tryz.ntmps84 (by rfl) (by simp) fun s0 a L=>?_;refine rs (sno (En.int .u8) 5 L fun a s L=>?_);refine es (rs ?_);refine sno (En.int .u8) 5 L fun a s L=>?_;refine es (wp_seq_k fun K1 H1=>?_);obtain ⟨r2,h3,h⟩:=h;refine ra 4 (p1 ((zpo h3).frz)) L fun a s L=>?_;refine wp_block ?_;have J6:∀(out4:(List Int)) (og5:Option Nat) (a:Act) (s:St),Has N0 26 s0 a s [(3,(Pd.row (En.int .u8) s0.w.heap.size 5 og5 out4))]→((zcb.j1 r_) out4)→K1 a s.w:=by
  intro out4 og5 a s L h;unfold zcb.j1 at h;show K1 a s.w;refine H1 _ _ (rA 2 L fun a s L=>?_);subst h;exact wp_ret (zf3 J L J)
 obtain ⟨k10,h⟩:=h;refine lpn (fun k11 a s=>∃(out7:(List Int)) (v9:Int) (og8:Option Nat),Has N0 26 s0 a s [(3,(Pd.row (En.int .u8) s0.w.heap.size 5 og8 out7)),(9,(Pd.rep (En.slice En.cls) r2)),(10,(Pi (r2.length:Int))),(11,(Pi v9))]∧zcb.l1 r2 (zcb.j1 r_) k11 out7 v9) k10 ⟨([]:(List Int)),0,none,L.kk,h⟩ ?_;rintro k11 a s ⟨out7,v9,og8,L,h⟩ KL12 hKL12;unfold zcb.l1 at h;refine rA 1 L fun a s L=>?_;refine wp_seq_k fun K13 H13=>cn L h (fun h=>?_) fun h=>?_
 ·refine wp_skip (H13 _ _ ?_);refine wp_seq_k fun K14 H14=>wp_block ?_;obtain ⟨e15,h16,h⟩:=h;refine rs (sl 2 (p1 h16) L fun a s L=>?_);have lt_d18:=L.rlt 3 rfl;refine zz En.cls (z:=(0#256)) 5 L zk2 J J J J fun a s g17 hg_ L=>?_;have d18:=Dis.newg hg_ lt_d18;refine sB 5 L fun s L=>?_;refine es ?_;obtain ⟨r19,h20,h⟩:=h;refine ra 7 (p1 ((zkn h20).tup)) L fun a s L=>?_;obtain ⟨h21,h⟩:=h;refine rg (sA 3 L fun a s L=>?_);refine zdx 23 L op op Ud.h Tq.h h21 J J J J ka fun a s og22 hg_ L=>?_;refine sA 1 L fun a s L=>?_;refine en' (H14 _ _ ?_);obtain ⟨h23,h⟩:=h;refine rg (sA 2 L fun a s L=>?_);refine en' ?_;exact hKL12 a s ⟨(out7++[r19.1]),(v9+1),og22,L.kk,h⟩
 ·refine wp_exit ?_;exact J6 out7 og8 a s (L.kk) h
theorem zpw {a_:(List Int)} {b_:(List Int)} {r_:Bool} (h:zcd a_ b_ r_):Fn Tryz.prog 32 [(Pd.rep (En.slice (En.int .u8)) a_),(Pd.rep (En.slice (En.int .u8)) b_)] (Rq (Pd.rep En.bool r_)):=by
 unfold zcd at h;refine zbn Tryz.func32 J Tryz.ntmps32 (by rfl) (by simp) fun s0 a L=>?_;refine rA 1 L fun a s L=>?_;refine wp_seq_k fun K1 H1=>rA 5 L fun a s L=>?_;refine cn L h (fun h=>?_) fun h=>?_
 ·refine rA 1 L fun a s L=>?_;subst h;exact wp_ret (zdr J L J)
 ·refine wp_skip (H1 _ _ ?_);refine wp_seq_k fun K2 H2=>rA 1 L fun a s L=>?_;refine wp_block ?_;have J3:∀(a:Act) (s:St),Has N0 26 s0 a s []→((zcd.j1 r_))→K2 a s.w:=by
   intro a s L h;unfold zcd.j1 at h;show K2 a s.w;refine H2 _ _ (rA 1 L fun a s L=>?_);subst h;exact wp_ret (zdr J L J)
  obtain ⟨k5,h⟩:=h;refine lpn (fun k6 a s=>∃(i4:Int),Has N0 26 s0 a s [(0,(Pd.rep (En.slice (En.int .u8)) a_)),(1,(Pd.rep (En.slice (En.int .u8)) b_)),(5,(Pi i4))]∧zcd.l1 a_ b_ r_ (zcd.j1 r_) k6 i4) k5 ⟨0,L.kk,h⟩ ?_;rintro k6 a s ⟨i4,L,h⟩ KL7 hKL7;unfold zcd.l1 at h;refine wp_seq_k fun K8 H8=>rA 4 L fun a s L=>?_;refine cn L h (fun h=>?_) fun h=>?_
  ·refine wp_skip (H8 _ _ ?_);refine wp_seq_k fun K9 H9=>wp_block ?_;obtain ⟨e10,h11,e12,h13,h⟩:=h;refine wp_seq (rdx 9 (pp h11 (p1 h13)) L fun a s L=>?_);refine es (cn L h (fun h=>?_) fun h=>?_)
   ·refine rA 1 L fun a s L=>?_;subst h;exact wp_ret (zdr J L J)
   ·refine wp_skip (H9 _ _ ?_);obtain ⟨h14,h⟩:=h;refine rg (sA 3 L fun a s L=>?_);refine en' ?_;exact hKL7 a s ⟨(i4+1),L.kk,h⟩
  ·refine wp_exit ?_;exact J3 a s (L.kk) h
set_option maxRecDepth 100000
set_option maxHeartbeats 2000000
set_option synthInstance.maxSize 100000
set_option synthInstance.maxHeartbeats 200000
theorem zey {s_:Str} {i_:Int} {from_:Int} {to_:Int} {r_:Bool} (h:zfu s_ i_ from_ to_ r_):Fn Tryz.prog 191 [(Pd.rep En.str s_),(Pi i_),(Pi from_),(Pi to_)] (Rq (Pd.rep En.bool r_)):=by
 unfold zfu at h;refine zbn Tryz.func191 J Tryz.ntmps191 (by rfl) (by simp) fun s0 a L=>?_;refine rA 1 L fun a s L=>?_;obtain ⟨c1,h2,b3,h4,c5,h6,h⟩:=h;refine ra 21 (pp h2 (pp h4 (p1 h6))) L fun a s L=>?_;subst h;exact wp_ret (zdr J L J)
theorem zrp {s_:Str} {r_:Bool} (h:zbl s_ r_):Fn Tryz.prog 145 [(Pd.rep En.str s_)] (Rq (Pd.rep En.bool r_)):=by
 unfold zbl at h;refine zbn Tryz.func145 J Tryz.ntmps145 (by rfl) (by simp) fun s0 a L=>?_;refine rA 1 L fun a s L=>?_;refine rA 1 L fun a s L=>?_;refine wp_seq_k fun K1 H1=>wp_block ?_;have J2:∀(a:Act) (s:St),Has N0 148 s0 a s []→((zbl.j1 r_))→K1 a s.w:=by
  intro a s L h;unfold zbl.j1 at h;show K1 a s.w;refine H1 _ _ (rA 1 L fun a s L=>?_);subst h;exact wp_ret (zdr J L J)
 obtain ⟨k4,h⟩:=h;refine lpn (fun k5 a s=>∃(i3:Int),Has N0 148 s0 a s [(0,(Pd.rep En.str s_)),(3,(Pi i3))]∧zbl.l1 s_ r_ (zbl.j1 r_) k5 i3) k4 ⟨0,L.kk,h⟩ ?_;rintro k5 a s ⟨i3,L,h⟩ KL6 hKL6;unfold zbl.l1 at h;refine wp_seq_k fun K7 H7=>rA 4 L fun a s L=>?_;refine cn L h (fun h=>?_) fun h=>?_
 ·refine wp_skip (H7 _ _ ?_);refine wp_block ?_;obtain ⟨c8,h9,h⟩:=h;refine ra 5 (p1 h9) L fun a s L=>?_;obtain ⟨h10,r11,h12,h⟩:=h;refine ra 5 (p1 (zey h12)) L fun a s L=>?_;obtain ⟨h13,r14,h15,h⟩:=h;refine ra 5 (p1 (zey h15)) L fun a s L=>?_;obtain ⟨h16,r17,h18,h⟩:=h;refine ra 5 (p1 (zey h18)) L fun a s L=>?_;refine wp_block (rA 3 L fun a s L=>?_);refine cn L h (fun h=>?_) fun h=>?_
  ·obtain ⟨h19,h⟩:=h;refine rg (sA 3 L fun a s L=>?_);refine en' ?_;exact hKL6 a s ⟨(i3+1),L.kk,h⟩
  ·obtain ⟨b20,h21,h⟩:=h;refine ra 10 (p1 h21) L fun a s L=>?_;refine cn L h (fun h=>?_) fun h=>?_
   ·obtain ⟨h22,h⟩:=h;refine rg (sA 3 L fun a s L=>?_);refine en' ?_;exact hKL6 a s ⟨(i3+2),L.kk,h⟩
   ·obtain ⟨h23,r24,h25,h⟩:=h;refine ra 12 (pp (fun hc_=>(zey (h25 hc_))) trivial) L fun a s L=>?_;refine cn L h (fun h=>?_) fun h=>?_
    ·obtain ⟨h26,h⟩:=h;refine rg (sA 3 L fun a s L=>?_);refine en' ?_;exact hKL6 a s ⟨(i3+3),L.kk,h⟩
    ·obtain ⟨b27,h28,h⟩:=h;refine ra 21 (p1 h28) L fun a s L=>?_;refine cn L h (fun h=>?_) fun h=>?_
     ·obtain ⟨h29,h⟩:=h;refine rg (sA 3 L fun a s L=>?_);refine en' ?_;exact hKL6 a s ⟨(i3+3),L.kk,h⟩
     ·obtain ⟨h30,r31,h32,h⟩:=h;refine ra 12 (pp (fun hc_=>(zey (h32 hc_))) trivial) L fun a s L=>?_;refine cn L h (fun h=>?_) fun h=>?_
      ·obtain ⟨h33,h⟩:=h;refine rg (sA 3 L fun a s L=>?_);refine en' ?_;exact hKL6 a s ⟨(i3+3),L.kk,h⟩
      ·obtain ⟨h34,r35,h36,h⟩:=h;refine ra 15 (pp (fun hc_=>(zey (h36 hc_))) trivial) L fun a s L=>?_;refine cn L h (fun h=>?_) fun h=>?_
       ·obtain ⟨h37,h⟩:=h;refine rg (sA 3 L fun a s L=>?_);refine en' ?_;exact hKL6 a s ⟨(i3+4),L.kk,h⟩
       ·obtain ⟨b38,h39,h⟩:=h;refine ra 16 (p1 h39) L fun a s L=>?_;refine cn L h (fun h=>?_) fun h=>?_
        ·obtain ⟨h40,h⟩:=h;refine rg (sA 3 L fun a s L=>?_);refine en' ?_;exact hKL6 a s ⟨(i3+4),L.kk,h⟩
        ·obtain ⟨h41,r42,h43,h⟩:=h;refine ra 15 (pp (fun hc_=>(zey (h43 hc_))) trivial) L fun a s L=>?_;refine cn L h (fun h=>?_) fun h=>?_
         ·obtain ⟨h44,h⟩:=h;refine rg (sA 3 L fun a s L=>?_);refine en' ?_;exact hKL6 a s ⟨(i3+4),L.kk,h⟩
         ·refine rA 1 L fun a s L=>?_;subst h;exact wp_ret (zdr J L J)
 ·refine wp_exit ?_;exact J2 a s (L.kk) h
set_option maxRecDepth 100000
set_option maxHeartbeats 2000000
set_option synthInstance.maxSize 100000
set_option synthInstance.maxHeartbeats 200000
theorem zkj {l_:(List SNode)} {by_:Int} {r_:(List SNode)} (h:zbd l_ by_ r_):Fn Tryz.prog 37 [(Pd.rep (En.slice En.SNode) l_),(Pi by_)] (Ro En.SNode 42 r_):=by
 unfold zbd at h;refine zbn Tryz.func37 J Tryz.ntmps37 (by rfl) (by simp) fun s0 a L=>?_;refine rs (sno En.SNode 42 L fun a s L=>?_);refine es (rs ?_);refine sno En.SNode 42 L fun a s L=>?_;refine es (wp_seq_k fun K1 H1=>?_);refine rA 1 L fun a s L=>?_;refine wp_block ?_;have J4:∀(out2:(List SNode)) (og3:Option Nat) (a:Act) (s:St),Has N0 44 s0 a s [(5,(Pd.row En.SNode s0.w.heap.size 42 og3 out2))]→((zbd.j1 r_) out2)→K1 a s.w:=by
  intro out2 og3 a s L h;unfold zbd.j1 at h;show K1 a s.w;refine H1 _ _ (rA 2 L fun a s L=>?_);subst h;exact wp_ret (zf3 J L J)
 obtain ⟨k8,h⟩:=h;refine lpn (fun k9 a s=>∃(out5:(List SNode)) (i7:Int) (og6:Option Nat),Has N0 44 s0 a s [(0,(Pd.rep (En.slice En.SNode) l_)),(1,(Pi by_)),(5,(Pd.row En.SNode s0.w.heap.size 42 og6 out5)),(6,(Pi i7))]∧zbd.l1 l_ by_ (zbd.j1 r_) k9 out5 i7) k8 ⟨([]:(List SNode)),0,none,L.kk,h⟩ ?_;rintro k9 a s ⟨out5,i7,og6,L,h⟩ KL10 hKL10;unfold zbd.l1 at h;refine wp_seq_k fun K11 H11=>rA 4 L fun a s L=>?_;refine cn L h (fun h=>?_) fun h=>?_
 ·refine wp_skip (H11 _ _ ?_);refine wp_seq_k fun K12 H12=>wp_block ?_;obtain ⟨e13,h14,h⟩:=h;refine rs (sl 4 (p1 h14) L fun a s L=>?_);have lt_d16:=L.rlt 5 rfl;refine zz En.SNode (z:=(0,0,0,0,0,(0#256),([]:Str))) 7 L zko J J J J fun a s g15 hg_ L=>?_;have d16:=Dis.newg hg_ lt_d16;refine sB 7 L fun s L=>?_;refine es (wp_seq_k fun K17 H17=>?_);refine rA 3 L fun a s L=>?_;have J19:∀(n18:SNode) (a:Act) (s:St),Has N0 44 s0 a s [(0,(Pd.rep (En.slice En.SNode) l_)),(1,(Pi by_)),(5,(Pd.row En.SNode s0.w.heap.size 42 og6 out5)),(6,(Pi i7)),(7,(Pd.box En.SNode s0.w.heap.size g15 n18))]→Dis og6 (some g15)→((zbd.j3 (zbd.l1 l_ by_ (zbd.j1 r_) k9) by_ out5 i7) n18)→K17 a s.w:=by
   intro n18 a s L d20 h;unfold zbd.j3 at h;show K17 a s.w;refine H17 _ _ (wp_seq_k fun K21 H21=>?_);refine rA 8 L fun a s L=>?_;have J23:∀(n22:SNode) (a:Act) (s:St),Has N0 44 s0 a s [(0,(Pd.rep (En.slice En.SNode) l_)),(1,(Pi by_)),(5,(Pd.row En.SNode s0.w.heap.size 42 og6 out5)),(6,(Pi i7)),(7,(Pd.box En.SNode s0.w.heap.size g15 n22))]→Dis og6 (some g15)→((zbd.j2 (zbd.l1 l_ by_ (zbd.j1 r_) k9) out5 i7) n22)→K21 a s.w:=by
    intro n22 a s L d24 h;unfold zbd.j2 at h;show K21 a s.w;refine H21 _ _ ?_;obtain ⟨h25,h⟩:=h;refine rg (sA 3 L fun a s L=>?_);refine zdx 42 L op op Ud.h Tq.h h25 J J J J ka fun a s og26 hg_ L=>?_;refine sA 1 L fun a s L=>?_;refine en' (H12 _ _ ?_);obtain ⟨h27,h⟩:=h;refine rg (sA 3 L fun a s L=>?_);refine en' ?_;exact hKL10 a s ⟨(out5++[n22]),(i7+1),og26,L.kk,h⟩
   refine cn L h (fun h=>?_) fun h=>?_
   ·obtain ⟨h28,h⟩:=h;refine rg (sA 5 L fun a s L=>?_);refine zex 7 L J op op (zk (zk (z7 (zo _ _ _)) J) J) Tq.h J J J ka fun s L=>?_;refine en' ?_;exact J23 (n18.1,n18.2.1,n18.2.2.1+by_,n18.2.2.2.1,n18.2.2.2.2.1,n18.2.2.2.2.2.1,n18.2.2.2.2.2.2) a s (L.kk) d20 h
   ·refine wp_skip ?_;exact J23 n18 a s (L.kk) d20 h
  refine cn L h (fun h=>?_) fun h=>?_
  ·obtain ⟨h29,h⟩:=h;refine rg (sA 5 L fun a s L=>?_);refine zex 7 L J op op (zk (z7 (zo _ _ _)) J) Tq.h J J J ka fun s L=>?_;refine en' ?_;exact J19 (e13.1,e13.2.1+by_,e13.2.2.1,e13.2.2.2.1,e13.2.2.2.2.1,e13.2.2.2.2.2.1,e13.2.2.2.2.2.2) a s (L.kk) (Dis.symm d16) h
  ·refine wp_skip ?_;exact J19 e13 a s (L.kk) (Dis.symm d16) h
 ·refine wp_exit ?_;exact J4 out5 og6 a s (L.kk) h
theorem zfe {kind_:Int} {a_:SDesc} {b_:SDesc} {r_:SDesc} (h:ze5 kind_ a_ b_ r_):Fn Tryz.prog 14 [(Pi kind_),(Pd.rep En.SDesc a_),(Pd.rep En.SDesc b_)] (Rq (Pd.rep En.SDesc r_)):=by
 unfold ze5 at h;refine zbn Tryz.func14 J Tryz.ntmps14 (by rfl) (by simp) fun s0 a L=>?_;refine rs (sA 2 L fun a s L=>?_);refine zz En.SDesc (z:=[]) 6 L znw J J J J fun a s g1 hg_ L=>?_;refine es ?_;obtain ⟨r4,h5,r6,h7,h10,h⟩:=h;refine wp_seq ?_;obtain ⟨K2,H2,nK2,L⟩:=L.mark 999983;have lt3:∀k,(some g1)=some k→k<K2:=by rw [H2];exact L.blt 6 rfl
 refine rda zck 9 [(Pd.ptr (En.slice En.SNode) a_),(Pd.rep (En.slice En.SNode) a_),(Pd.erow En.SNode s0.w.heap.size K2 42 r4),(Pd.ptr (En.slice En.SNode) b_),(Pd.rep (En.slice En.SNode) b_),(Pd.ptr (En.slice En.SNode) a_),(Pd.rep (En.slice En.SNode) a_),(Pi (a_.length:Int)),(Pd.rep (En.slice En.SNode) r6)] L (by kernel_rfl) J J ?_ ?_
 ·refine zbe.cons (zdb (off:=0) (O 4 J) U24 J (zfv (zn _ _)) J ty22 J J) ?_;refine zbe.cons (zw ty22 (O 8 J) J J) ?_;refine zbe.cons (t_callox (K:=K2) (m:=999983) J nK2 (zkj h5) (xs:=[.tmp 9,.const (.int .i64 0)]) (.cons (O 9 J) (.cons oI .nil)) J J) ?_;refine zbe.cons (zdb (off:=0) (O 5 J) U24 J (zfv (zn _ _)) J ty22 J J) ?_;refine zbe.cons (zw ty22 (O 11 J) J J) ?_;refine zbe.cons (zdb (off:=0) (O 4 J) U24 J (zfv (zn _ _)) J ty22 J J) ?_;refine zbe.cons (zw ty22 (O 13 J) J J) ?_;refine zbe.cons (zi2 (O 14 J) U22 J J) ?_;refine zbe.cons (zdl ((zkj h7).frz) (xs:=[.tmp 12,.tmp 15]) (.cons (O 12 J) (.cons (O 15 J) .nil)) J J) ?_;exact zbe.nil
 intro a s _ L;obtain ⟨og8,hg_,L⟩:=L.openr 10 rfl;have d9:=Dis.new hg_ lt3;replace L:=L.kk (L':=[(0,(Pi kind_)),(4,(Pd.ptr En.SDesc a_)),(5,(Pd.ptr En.SDesc b_)),(6,(Pd.box En.SDesc s0.w.heap.size g1 [])),(10,(Pd.row En.SNode s0.w.heap.size 42 og8 r4)),(16,(Pd.rep (En.slice En.SNode) r6))]);refine dp ?_;have lt_og11_0:=L.blt 6 rfl;refine zdx 17 L op op Ud.h Tq.h h10 J J J J ka fun a s og11 hg_ L=>?_;have d12:=Dis.app hg_ d9 lt_og11_0;refine sA 1 L fun a s L=>?_;refine es ?_;obtain ⟨h13,h14,h15,h16,h⟩:=h;refine rs (sA 14 L fun a s L=>?_);refine sv (zbj (x:=(kind_,(a_.length:Int)-1,((a_.length:Int)+(b_.length:Int))-1,0,0,(0#256),([]:Str))) (ps:=[(0,.tmp 19),(1,.tmp 23),(2,.tmp 31)]) zko J stt42 (.cons (i:=0) op J (z7 (zo _ _ _)) (.cons (i:=1) op J (zk (z7 (zo _ _ _)) J) (.cons (i:=2) op J (zk (zk (z7 (zo _ _ _)) J) J) .nil))) J J) L fun a s L=>?_;refine sA 1 L fun a s L=>?_;have lt_og17_0:=L.blt 6 rfl;refine zdx 34 L op op Ud.h Tq.h h16 J J J J ka fun a s og17 hg_ L=>?_;have d18:=Dis.app hg_ d12 lt_og17_0;refine fzl 34 L fun s L=>?_;refine sv (zbj (x:=(r4++r6)++[(kind_,(a_.length:Int)-1,((a_.length:Int)+(b_.length:Int))-1,0,0,(0#256),([]:Str))]) (ps:=[(0,.tmp 34)]) znw J stt24 (.cons (i:=0) op J (zju (zo _ _ _)) .nil) J J) L fun a s L=>?_;refine sB 6 L fun s L=>?_;refine es ?_;subst h;exact wp_ret (retb J ty24 L J)
theorem ref04_Few_ok {d_:SDesc} {r_:Bool} (h:zc5 d_ r_):Fn Tryz.prog 34 [(Pd.rep En.SDesc d_)] (Rq (Pd.rep En.bool r_)):=by
 unfold zc5 at h;refine zbn Tryz.func34 J Tryz.ntmps34 (by rfl) (by simp) fun s0 a L=>?_;refine rA 2 L fun a s L=>?_;refine rA 1 L fun a s L=>?_;refine wp_seq_k fun K1 H1=>rA 1 L fun a s L=>?_;refine wp_block ?_;have J3:∀(n2:Int) (a:Act) (s:St),Has N0 33 s0 a s [(1,(Pd.ptr En.SDesc d_)),(3,(Pi n2))]→((zc5.j1 d_ r_) n2)→K1 a s.w:=by
  intro n2 a s L h;unfold zc5.j1 at h;show K1 a s.w;refine H1 _ _ ?_;obtain ⟨b4,h5,h⟩:=h;refine ra 9 (p1 h5) L fun a s L=>?_;subst h;exact wp_ret (zdr J L J)
 obtain ⟨k8,h⟩:=h;refine lpn (fun k9 a s=>∃(n6:Int) (i7:Int),Has N0 33 s0 a s [(1,(Pd.ptr En.SDesc d_)),(3,(Pi n6)),(4,(Pi i7))]∧zc5.l1 d_ (zc5.j1 d_ r_) k9 n6 i7) k8 ⟨0,0,L.kk,h⟩ ?_;rintro k9 a s ⟨n6,i7,L,h⟩ KL10 hKL10;unfold zc5.l1 at h;refine wp_seq_k fun K11 H11=>?_;obtain ⟨b12,h13,h⟩:=h;refine ra 9 (p1 h13) L fun a s L=>?_;refine cn L h (fun h=>?_) fun h=>?_
 ·refine wp_skip (H11 _ _ ?_);refine wp_seq_k fun K14 H14=>wp_block ?_;obtain ⟨e15,h16,h17,h⟩:=h;refine rg (sl 10 (p1 h16) L fun a s L=>?_);refine en' (H14 _ _ ?_);obtain ⟨h18,h⟩:=h;refine rg (sA 3 L fun a s L=>?_);refine en' ?_;exact hKL10 a s ⟨(n6+(e15.2.2.2.2.2.2.length:Int)),(i7+1),L.kk,h⟩
 ·refine wp_exit ?_;exact J3 n6 a s (L.kk) h
theorem zoe {d_:SDesc} {r_:Int} (h:zm d_ r_):Fn Tryz.prog 35 [(Pd.rep En.SDesc d_)] (Rq (Pi r_)):=by
 unfold zm at h;refine zbn Tryz.func35 J Tryz.ntmps35 (by rfl) (by simp) fun s0 a L=>?_;refine rA 2 L fun a s L=>?_;refine rs (sno (En.int .i64) 3 L fun a s L=>?_);refine es (wp_seq_k fun K1 H1=>?_);refine rA 1 L fun a s L=>?_;refine wp_block ?_;have J4:∀(l2:(List Int)) (og3:Option Nat) (a:Act) (s:St),Has N0 113 s0 a s [(3,(Pd.row (En.int .i64) s0.w.heap.size 3 og3 l2))]→((zm.j1 r_) l2)→K1 a s.w:=by
  intro l2 og3 a s L h;unfold zm.j1 at h;show K1 a s.w;refine H1 _ _ (wp_seq_k fun K5 H5=>?_);refine rA 3 L fun a s L=>?_;refine cn L h (fun h=>?_) fun h=>?_
  ·refine rA 1 L fun a s L=>?_;subst h;exact wp_ret (zdr J L J)
  ·refine wp_skip (H5 _ _ ?_);obtain ⟨h6,e7,h8,h⟩:=h;refine ra 7 (p1 h8) L fun a s L=>?_;subst h;exact wp_ret (zdr J L J)
 obtain ⟨k12,h⟩:=h;refine lpn (fun k13 a s=>∃(l9:(List Int)) (i11:Int) (og10:Option Nat),Has N0 113 s0 a s [(1,(Pd.ptr En.SDesc d_)),(3,(Pd.row (En.int .i64) s0.w.heap.size 3 og10 l9)),(4,(Pi i11))]∧zm.l1 d_ (zm.j1 r_) k13 l9 i11) k12 ⟨([]:(List Int)),0,none,L.kk,h⟩ ?_;rintro k13 a s ⟨l9,i11,og10,L,h⟩ KL14 hKL14;unfold zm.l1 at h;refine wp_seq_k fun K15 H15=>?_;obtain ⟨b16,h17,h⟩:=h;refine ra 9 (p1 h17) L fun a s L=>?_;refine cn L h (fun h=>?_) fun h=>?_
 ·refine wp_skip (H15 _ _ ?_);refine wp_seq_k fun K18 H18=>wp_block ?_;obtain ⟨e19,h20,h⟩:=h;refine rs (sl 5 (p1 h20) L fun a s L=>?_);have lt_d22:=L.rlt 3 rfl;refine zz En.SNode (z:=(0,0,0,0,0,(0#256),([]:Str))) 5 L zko J J J J fun a s g21 hg_ L=>?_;have d22:=Dis.newg hg_ lt_d22;refine sB 5 L fun s L=>?_;refine es (rA 1 L fun a s L=>?_);refine rA 1 L fun a s L=>?_;refine wp_seq_k fun K23 H23=>?_;obtain ⟨b24,h25,h⟩:=h;refine ra 10 (p1 h25) L fun a s L=>?_;have J27:∀(a26:Int) (a:Act) (s:St),Has N0 113 s0 a s [(1,(Pd.ptr En.SDesc d_)),(3,(Pd.row (En.int .i64) s0.w.heap.size 3 og10 l9)),(4,(Pi i11)),(5,(Pd.box En.SNode s0.w.heap.size g21 e19)),(6,(Pi a26)),(7,(Pi 0))]→Dis og10 (some g21)→((zm.j7 (zm.l1 d_ (zm.j1 r_) k13) l9 i11 e19) a26)→K23 a s.w:=by
   intro a26 a s L d28 h;unfold zm.j7 at h;show K23 a s.w;refine H23 _ _ (wp_seq_k fun K29 H29=>?_);obtain ⟨b30,h31,h⟩:=h;refine ra 10 (p1 h31) L fun a s L=>?_;have J33:∀(b32:Int) (a:Act) (s:St),Has N0 113 s0 a s [(1,(Pd.ptr En.SDesc d_)),(3,(Pd.row (En.int .i64) s0.w.heap.size 3 og10 l9)),(4,(Pi i11)),(5,(Pd.box En.SNode s0.w.heap.size g21 e19)),(6,(Pi a26)),(7,(Pi b32))]→Dis og10 (some g21)→((zm.j6 (zm.l1 d_ (zm.j1 r_) k13) l9 i11 e19 a26) b32)→K29 a s.w:=by
    intro b32 a s L d34 h;unfold zm.j6 at h;show K29 a s.w;refine H29 _ _ (rA 1 L fun a s L=>?_);refine wp_seq_k fun K35 H35=>rA 3 L fun a s L=>?_;have J37:∀(w36:Int) (a:Act) (s:St),Has N0 113 s0 a s [(1,(Pd.ptr En.SDesc d_)),(3,(Pd.row (En.int .i64) s0.w.heap.size 3 og10 l9)),(4,(Pi i11)),(5,(Pd.box En.SNode s0.w.heap.size g21 e19)),(6,(Pi a26)),(7,(Pi b32)),(8,(Pi w36))]→Dis og10 (some g21)→((zm.j5 (zm.l1 d_ (zm.j1 r_) k13) l9 i11 e19 a26 b32) w36)→K35 a s.w:=by
     intro w36 a s L d38 h;unfold zm.j5 at h;show K35 a s.w;refine H35 _ _ (wp_seq_k fun K39 H39=>?_);refine rA 8 L fun a s L=>?_;have J41:∀(w40:Int) (a:Act) (s:St),Has N0 113 s0 a s [(1,(Pd.ptr En.SDesc d_)),(3,(Pd.row (En.int .i64) s0.w.heap.size 3 og10 l9)),(4,(Pi i11)),(5,(Pd.box En.SNode s0.w.heap.size g21 e19)),(6,(Pi a26)),(8,(Pi w40))]→Dis og10 (some g21)→((zm.j4 (zm.l1 d_ (zm.j1 r_) k13) l9 i11 e19 a26) w40)→K39 a s.w:=by
      intro w40 a s L d42 h;unfold zm.j4 at h;show K39 a s.w;refine H39 _ _ (wp_seq_k fun K43 H43=>?_);refine rA 13 L fun a s L=>?_;have J45:∀(w44:Int) (a:Act) (s:St),Has N0 113 s0 a s [(1,(Pd.ptr En.SDesc d_)),(3,(Pd.row (En.int .i64) s0.w.heap.size 3 og10 l9)),(4,(Pi i11)),(5,(Pd.box En.SNode s0.w.heap.size g21 e19)),(6,(Pi a26)),(8,(Pi w44))]→Dis og10 (some g21)→((zm.j3 (zm.l1 d_ (zm.j1 r_) k13) l9 i11 e19 a26) w44)→K43 a s.w:=by
       intro w44 a s L d46 h;unfold zm.j3 at h;show K43 a s.w;refine H43 _ _ (wp_seq_k fun K47 H47=>?_);refine rA 3 L fun a s L=>?_;have J49:∀(w48:Int) (a:Act) (s:St),Has N0 113 s0 a s [(1,(Pd.ptr En.SDesc d_)),(3,(Pd.row (En.int .i64) s0.w.heap.size 3 og10 l9)),(4,(Pi i11)),(8,(Pi w48))]→((zm.j2 (zm.l1 d_ (zm.j1 r_) k13) l9 i11) w48)→K47 a s.w:=by
        intro w48 a s L h;unfold zm.j2 at h;show K47 a s.w;refine H47 _ _ ?_;obtain ⟨h50,h⟩:=h;refine rg (sA 4 L fun a s L=>?_);refine zdx 103 L op op Ud.h Tq.h h50 J J J J ka fun a s og51 hg_ L=>?_;refine sA 1 L fun a s L=>?_;refine en' (H18 _ _ ?_);obtain ⟨h52,h⟩:=h;refine rg (sA 3 L fun a s L=>?_);refine en' ?_;exact hKL14 a s ⟨(l9++[(min w48 1000)]),(i11+1),og51,L.kk,h⟩
       refine cn L h (fun h=>?_) fun h=>?_
       ·obtain ⟨h53,h54,h⟩:=h;refine rg (sA 8 L fun a s L=>?_);refine en' ?_;exact J49 ((1+(max 0 (min e19.2.2.2.2.1 1000)))*a26) a s (L.kk) h
       ·refine wp_skip ?_;exact J49 w44 a s (L.kk) h
      refine cn L h (fun h=>?_) fun h=>?_
      ·obtain ⟨h55,h⟩:=h;refine rg (sA 3 L fun a s L=>?_);refine en' ?_;exact J45 (a26+1) a s (L.kk) d42 h
      ·refine wp_skip ?_;exact J45 w40 a s (L.kk) d42 h
     refine cn L h (fun h=>?_) fun h=>?_
     ·obtain ⟨h56,h⟩:=h;refine rg (sA 4 L fun a s L=>?_);refine en' ?_;exact J41 (a26+b32) a s (L.kk) d38 h
     ·refine wp_skip ?_;exact J41 w36 a s (L.kk) d38 h
    refine cn L h (fun h=>?_) fun h=>?_
    ·obtain ⟨h57,h⟩:=h;refine rg (sA 6 L fun a s L=>?_);refine en' ?_;exact J37 (1+(min (e19.2.2.2.2.2.2.length:Int) 1000)) a s (L.kk) d34 h
    ·refine wp_skip ?_;exact J37 1 a s (L.kk) d34 h
   refine cn L h (fun h=>?_) fun h=>?_
   ·obtain ⟨e58,h59,h⟩:=h;refine rg (sl 6 (p1 h59) L fun a s L=>?_);refine en' ?_;exact J33 e58 a s (L.kk) d28 h
   ·refine wp_skip ?_;exact J33 0 a s (L.kk) d28 h
  refine cn L h (fun h=>?_) fun h=>?_
  ·obtain ⟨e60,h61,h⟩:=h;refine rg (sl 6 (p1 h61) L fun a s L=>?_);refine en' ?_;exact J27 e60 a s (L.kk) (Dis.symm d22) h
  ·refine wp_skip ?_;exact J27 0 a s (L.kk) (Dis.symm d22) h
 ·refine wp_exit ?_;exact J4 l9 og10 a s (L.kk) h
theorem zrn {s_:Str} {r_:Bool} (h:zcm s_ r_):Fn Tryz.prog 117 [(Pd.rep En.str s_)] (Rq (Pd.rep En.bool r_)):=by
 unfold zcm at h;refine zbn Tryz.func117 J Tryz.ntmps117 (by rfl) (by simp) fun s0 a L=>?_;refine rA 1 L fun a s L=>?_;refine wp_seq_k fun K1 H1=>rA 1 L fun a s L=>?_;refine wp_block ?_;have J2:∀(a:Act) (s:St),Has N0 21 s0 a s [(0,(Pd.rep En.str s_))]→((zcm.j1 s_ r_))→K1 a s.w:=by
  intro a s L h;unfold zcm.j1 at h;show K1 a s.w;refine H1 _ _ ?_;obtain ⟨r3,h4,h⟩:=h;refine ra 8 (pp (fun hc_=>(zrp (h4 hc_))) trivial) L fun a s L=>?_;subst h;exact wp_ret (zdr J L J)
 obtain ⟨k6,h⟩:=h;refine lpn (fun k7 a s=>∃(i5:Int),Has N0 21 s0 a s [(0,(Pd.rep En.str s_)),(3,(Pi i5))]∧zcm.l1 s_ r_ (zcm.j1 s_ r_) k7 i5) k6 ⟨0,L.kk,h⟩ ?_;rintro k7 a s ⟨i5,L,h⟩ KL8 hKL8;unfold zcm.l1 at h;refine wp_seq_k fun K9 H9=>rA 4 L fun a s L=>?_;refine cn L h (fun h=>?_) fun h=>?_
 ·refine wp_skip (H9 _ _ ?_);refine wp_seq_k fun K10 H10=>wp_block ?_;obtain ⟨c11,h12,h⟩:=h;refine ra 4 (p1 h12) L fun a s L=>?_;refine cn L h (fun h=>?_) fun h=>?_
  ·refine rA 1 L fun a s L=>?_;subst h;exact wp_ret (zdr J L J)
  ·refine wp_skip (H10 _ _ ?_);obtain ⟨h13,h⟩:=h;refine rg (sA 3 L fun a s L=>?_);refine en' ?_;exact hKL8 a s ⟨(i5+1),L.kk,h⟩
 ·refine wp_exit ?_;exact J2 a s (L.kk) h
theorem z8.n_ok (k_:Nat):∀{l_:(List SNode)} {i_:Int} {r_:Int} (h:z8.n k_ l_ i_ r_),Fn Tryz.prog 91 [(Pd.rep (En.slice En.SNode) l_),(Pi i_)] (Rq (Pi r_)):=by
 induction k_ with
 | zero=>intro l_ i_ r_ h;exact h.elim
 | succ k_ ih_=>
 intro l_ i_ r_ h;unfold z8.n at h;refine zbn Tryz.func91 J Tryz.ntmps91 (by rfl) (by simp) fun s0 a L=>?_;refine rA 1 L fun a s L=>?_;refine wp_seq_k fun K1 H1=>rA 2 L fun a s L=>?_;refine cn L h (fun h=>?_) fun h=>?_
 ·refine rA 1 L fun a s L=>?_;subst h;exact wp_ret (zdr J L J)
 ·refine wp_skip (H1 _ _ ?_);obtain ⟨e2,h3,h⟩:=h;refine rs (sl 4 (p1 h3) L fun a s L=>?_);refine zz En.SNode (z:=(0,0,0,0,0,(0#256),([]:Str))) 5 L zko J J J J fun a s g4 hg_ L=>?_;refine sB 5 L fun s L=>?_;refine es (rs ?_);refine sA 2 L fun a s L=>?_;refine sv (zbj (x:=(e2.1,0,0,0,0,(0#256),([]:Str))) (ps:=[(0,.tmp 16)]) zko J stt42 (.cons (i:=0) op J (z7 (zo _ _ _)) .nil) J J) L fun a s L=>?_;have lt_d6:=L.blt 5 rfl;refine zz En.SNode (z:=(0,0,0,0,0,(0#256),([]:Str))) 6 L zko J J J J fun a s g5 hg_ L=>?_;have d6:=Dis.newg hg_ lt_d6;refine sB 6 L fun s L=>?_;refine es (rA 2 L fun a s L=>?_);refine wp_seq_k fun K7 H7=>rA 2 L fun a s L=>?_;refine wp_block (rA 2 L fun a s L=>?_);refine cn L h (fun h=>?_) fun h=>?_
  ·refine wp_skip (H7 _ _ ?_);refine wp_seq_k fun K8 H8=>rs (sA 2 L fun a s L=>?_);refine sv (t_nev eq42 op op J J) L fun a s L=>?_;refine es (cn L h (fun h=>?_) fun h=>?_)
   ·refine rA 1 L fun a s L=>?_;subst h;exact wp_ret (zdr J L J)
   ·refine wp_skip (H8 _ _ ?_);refine rA 2 L fun a s L=>?_;subst h;exact wp_ret (zdr J L J)
  ·refine rA 2 L fun a s L=>?_;refine cn L h (fun h=>?_) fun h=>?_
   ·refine rg ?_;refine sA 3 L fun a s L=>?_;refine zex 6 L J op op (zk (zk (zk (zk (zk (z7 (zo _ _ _)) J) J) J) J) J) Tq.h J J J ka fun s L=>?_;refine en' (H7 _ _ ?_);refine wp_seq_k fun K9 H9=>?_;obtain ⟨b10,h11,h⟩:=h;refine rs (sA 2 L fun a s L=>?_);refine sv (h11 ▸ (t_nev eq42 op op J J)) L fun a s L=>?_;refine es (cn L h (fun h=>?_) fun h=>?_)
    ·refine rA 1 L fun a s L=>?_;subst h;exact wp_ret (zdr J L J)
    ·refine wp_skip (H9 _ _ ?_);refine rA 2 L fun a s L=>?_;subst h;exact wp_ret (zdr J L J)
   ·refine rA 2 L fun a s L=>?_;refine cn L h (fun h=>?_) fun h=>?_
    ·refine rs ?_;refine sA 3 L fun a s L=>?_;refine zex 6 L J op op (zk (zk (zk (zk (zk (zk (zo _ _ _) J) J) J) J) J) J) Tq.h J J J ka fun s L=>?_;refine es ?_;obtain ⟨r12,h13,h⟩:=h;refine ra 4 (p1 (zrn h13)) L fun a s L=>?_;refine cn L h (fun h=>?_) fun h=>?_
     ·refine rA 1 L fun a s L=>?_;subst h;exact wp_ret (zdr J L J)
     ·refine wp_skip (H7 _ _ ?_);refine wp_seq_k fun K14 H14=>?_;obtain ⟨b15,h16,h⟩:=h;refine rs (sA 2 L fun a s L=>?_);refine sv (h16 ▸ (t_nev eq42 op op J J)) L fun a s L=>?_;refine es (cn L h (fun h=>?_) fun h=>?_)
      ·refine rA 1 L fun a s L=>?_;subst h;exact wp_ret (zdr J L J)
      ·refine wp_skip (H14 _ _ ?_);refine rA 2 L fun a s L=>?_;subst h;exact wp_ret (zdr J L J)
    ·refine wp_seq_k fun K17 H17=>?_;refine rA 2 L fun a s L=>?_;have J19:∀(v18:Bool) (a:Act) (s:St),Has N0 96 s0 a s [(0,(Pd.rep (En.slice En.SNode) l_)),(1,(Pi i_)),(5,(Pd.box En.SNode s0.w.heap.size g4 e2)),(6,(Pd.box En.SNode s0.w.heap.size g5 (e2.1,0,0,0,0,(0#256),([]:Str)))),(20,(Pi e2.1)),(37,(Pd.rep En.bool v18))]→Dis (some g4) (some g5)→((z8.j3 (z8.n k_) l_ i_ r_ e2) v18)→K17 a s.w:=by
      intro v18 a s L d20 h;unfold z8.j3 at h;show K17 a s.w;refine H17 _ _ (cn L h (fun h=>?_) fun h=>?_)
      ·obtain ⟨h21,h⟩:=h;refine rs (sA 3 L fun a s L=>?_);refine zex 6 L J op op (zk (z7 (zo _ _ _)) J) Tq.h J J J ka fun s L=>?_;refine es (wp_seq_k fun K22 H22=>?_);refine rA 3 L fun a s L=>?_;have J24:∀(want23:SNode) (a:Act) (s:St),Has N0 96 s0 a s [(0,(Pd.rep (En.slice En.SNode) l_)),(1,(Pi i_)),(5,(Pd.box En.SNode s0.w.heap.size g4 e2)),(6,(Pd.box En.SNode s0.w.heap.size g5 want23))]→Dis (some g4) (some g5)→((z8.j1 (z8.n k_) l_ i_ r_ e2) want23)→K22 a s.w:=by
        intro want23 a s L d25 h;unfold z8.j1 at h;show K22 a s.w;refine H22 _ _ ?_;obtain ⟨h26,r27,h28,h⟩:=h;refine rg (sl 5 (p1 (ih_ h28)) L fun a s L=>?_);refine en' (H7 _ _ ?_);refine wp_seq_k fun K29 H29=>rs (sA 2 L fun a s L=>?_);refine sv (t_nev eq42 op op J J) L fun a s L=>?_;refine es (cn L h (fun h=>?_) fun h=>?_)
        ·refine rA 1 L fun a s L=>?_;subst h;exact wp_ret (zdr J L J)
        ·refine wp_skip (H29 _ _ ?_);refine rA 2 L fun a s L=>?_;subst h;exact wp_ret (zdr J L J)
       refine cn L h (fun h=>?_) fun h=>?_
       ·refine rs ?_;refine sA 3 L fun a s L=>?_;refine zex 6 L J op op (zk (zk (zk (z7 (zo _ _ _)) J) J) J) Tq.h J J J ka fun s L=>?_;refine es (rs ?_);refine sA 3 L fun a s L=>?_;refine zex 6 L J op op (zk (zk (zk (zk (z7 (zo _ _ _)) J) J) J) J) Tq.h J J J ka fun s L=>?_;refine es ?_;obtain ⟨b30,h31,h⟩:=h;refine ra 15 (p1 h31) L fun a s L=>?_;refine cn L h (fun h=>?_) fun h=>?_
        ·refine rA 1 L fun a s L=>?_;subst h;exact wp_ret (zdr J L J)
        ·refine wp_skip ?_;exact J24 (e2.1,i_-1,0,e2.2.2.2.1,e2.2.2.2.2.1,(0#256),([]:Str)) a s (L.kk) d20 h
       ·refine wp_skip ?_;exact J24 (e2.1,i_-1,0,0,0,(0#256),([]:Str)) a s (L.kk) d20 h
      ·refine wp_seq_k fun K32 H32=>?_;refine rA 2 L fun a s L=>?_;have J34:∀(v33:Bool) (a:Act) (s:St),Has N0 96 s0 a s [(0,(Pd.rep (En.slice En.SNode) l_)),(1,(Pi i_)),(5,(Pd.box En.SNode s0.w.heap.size g4 e2)),(6,(Pd.box En.SNode s0.w.heap.size g5 (e2.1,0,0,0,0,(0#256),([]:Str)))),(73,(Pd.rep En.bool v33))]→Dis (some g4) (some g5)→((z8.j2 (z8.n k_) l_ i_ r_ e2) v33)→K32 a s.w:=by
        intro v33 a s L d35 h;unfold z8.j2 at h;show K32 a s.w;refine H32 _ _ (cn L h (fun h=>?_) fun h=>?_)
        ·obtain ⟨h36,h⟩:=h;refine rs (sA 3 L fun a s L=>?_);refine zex 6 L J op op (zk (zk (z7 (zo _ _ _)) J) J) Tq.h J J J ka fun s L=>?_;refine es ?_;obtain ⟨h37,r38,h39,h⟩:=h;refine ra 5 (p1 (ih_ h39)) L fun a s L=>?_;refine wp_seq_k fun K40 H40=>rA 2 L fun a s L=>?_;refine cn L h (fun h=>?_) fun h=>?_
         ·refine rA 1 L fun a s L=>?_;subst h;exact wp_ret (zdr J L J)
         ·refine wp_skip (H40 _ _ ?_);obtain ⟨h41,h⟩:=h;refine rs (sA 3 L fun a s L=>?_);refine zex 6 L J op op (zk (z7 (zo _ _ _)) J) Tq.h J J J ka fun s L=>?_;refine es ?_;obtain ⟨h42,r43,h44,h⟩:=h;refine rg (sl 5 (p1 (ih_ h44)) L fun a s L=>?_);refine en' (H7 _ _ ?_);refine wp_seq_k fun K45 H45=>?_;obtain ⟨b46,h47,h⟩:=h;refine rs (sA 2 L fun a s L=>?_);refine sv (h47 ▸ (t_nev eq42 op op J J)) L fun a s L=>?_;refine es (cn L h (fun h=>?_) fun h=>?_)
          ·refine rA 1 L fun a s L=>?_;subst h;exact wp_ret (zdr J L J)
          ·refine wp_skip (H45 _ _ ?_);refine rA 2 L fun a s L=>?_;subst h;exact wp_ret (zdr J L J)
        ·refine rA 1 L fun a s L=>?_;subst h;exact wp_ret (zdr J L J)
       refine cn L h (fun h=>?_) fun h=>?_
       ·refine wp_skip ?_;exact J34 (e2.1==4) a s (L.kk) d20 h
       ·refine rg ?_;refine sA 2 L fun a s L=>?_;refine en' ?_;exact J34 (e2.1==5) a s (L.kk) d20 h
     refine cn L h (fun h=>?_) fun h=>?_
     ·refine wp_skip ?_;exact J19 (e2.1==6) a s (L.kk) (Dis.symm d6) h
     ·refine rA 2 L fun a s L=>?_;refine cn L h (fun h=>?_) fun h=>?_
      ·refine wp_skip ?_;exact J19 (e2.1==7) a s (L.kk) (Dis.symm d6) h
      ·refine rA 2 L fun a s L=>?_;refine cn L h (fun h=>?_) fun h=>?_
       ·refine wp_skip ?_;exact J19 (e2.1==8) a s (L.kk) (Dis.symm d6) h
       ·refine rg ?_;refine sA 2 L fun a s L=>?_;refine en' ?_;exact J19 (e2.1==9) a s (L.kk) (Dis.symm d6) h
theorem zpv {l_:(List SNode)} {i_:Int} {r_:Int} (h:z8 l_ i_ r_):Fn Tryz.prog 91 [(Pd.rep (En.slice En.SNode) l_),(Pi i_)] (Rq (Pi r_)):=by
 obtain ⟨k_,h⟩:=h;exact z8.n_ok k_ h
theorem zro {d_:SDesc} {r_:Bool} (h:zjz d_ r_):Fn Tryz.prog 62 [(Pd.rep En.SDesc d_)] (Rq (Pd.rep En.bool r_)):=by
 unfold zjz at h;refine zbn Tryz.func62 J Tryz.ntmps62 (by rfl) (by simp) fun s0 a L=>?_;refine rA 2 L fun a s L=>?_;obtain ⟨h1,r2,h3,h⟩:=h;refine ra 15 (pp (fun hc_=>(zpv (h3 hc_))) trivial) L fun a s L=>?_;subst h;exact wp_ret (zdr J L J)
theorem zkk {d_:SDesc} {r_:Bool} (h:zbz d_ r_):Fn Tryz.prog 38 [(Pd.rep En.SDesc d_)] (Rq (Pd.rep En.bool r_)):=by
 unfold zbz at h;refine zbn Tryz.func38 J Tryz.ntmps38 (by rfl) (by simp) fun s0 a L=>?_;refine rA 2 L fun a s L=>?_;refine wp_seq_k fun K1 H1=>rA 1 L fun a s L=>?_;refine wp_block ?_;have J2:∀(a:Act) (s:St),Has N0 27 s0 a s []→((zbz.j1 r_))→K1 a s.w:=by
  intro a s L h;unfold zbz.j1 at h;show K1 a s.w;refine H1 _ _ (rA 1 L fun a s L=>?_);subst h;exact wp_ret (zdr J L J)
 obtain ⟨k4,h⟩:=h;refine lpn (fun k5 a s=>∃(i3:Int),Has N0 27 s0 a s [(1,(Pd.ptr En.SDesc d_)),(3,(Pi i3))]∧zbz.l1 d_ r_ (zbz.j1 r_) k5 i3) k4 ⟨0,L.kk,h⟩ ?_;rintro k5 a s ⟨i3,L,h⟩ KL6 hKL6;unfold zbz.l1 at h;refine wp_seq_k fun K7 H7=>rA 5 L fun a s L=>?_;refine cn L h (fun h=>?_) fun h=>?_
 ·refine wp_skip (H7 _ _ ?_);refine wp_seq_k fun K8 H8=>wp_block ?_;obtain ⟨e9,h10,e11,h12,h⟩:=h;refine ra 16 (pp h10 (p1 h12)) L fun a s L=>?_;refine cn L h (fun h=>?_) fun h=>?_
  ·refine rA 1 L fun a s L=>?_;subst h;exact wp_ret (zdr J L J)
  ·refine wp_skip (H8 _ _ ?_);obtain ⟨h13,h⟩:=h;refine rg (sA 3 L fun a s L=>?_);refine en' ?_;exact hKL6 a s ⟨(i3+1),L.kk,h⟩
 ·refine wp_exit ?_;exact J2 a s (L.kk) h
theorem zog {d_:SDesc} {ev_:SDesc} {nv_:Int} {r_:Int} (h:zg8 d_ ev_ nv_ r_):Fn Tryz.prog 15 [(Pd.rep En.SDesc d_),(Pd.rep En.SDesc ev_),(Pi nv_)] (Rq (Pi r_)):=by
 unfold zg8 at h;refine zbn Tryz.func15 J Tryz.ntmps15 (by rfl) (by simp) fun s0 a L=>?_;refine rA 3 L fun a s L=>?_;refine wp_seq_k fun K1 H1=>?_;obtain ⟨r2,h3,r4,h5,h⟩:=h;refine ra 6 (pp (zkk h3) (pp (fun hc_=>(zkk (h5 hc_))) trivial)) L fun a s L=>?_;refine cn L h (fun h=>?_) fun h=>?_
 ·refine rA 3 L fun a s L=>?_;subst h;exact wp_ret (zdr J L J)
 ·refine wp_skip (H1 _ _ ?_);refine rA 2 L fun a s L=>?_;subst h;exact wp_ret (zdr J L J)
set_option maxRecDepth 100000
set_option maxHeartbeats 2000000
set_option synthInstance.maxSize 100000
set_option synthInstance.maxHeartbeats 200000
theorem zrl {d_:SDesc} {i_:Int} {r_:Int} (h:zq d_ i_ r_):Fn Tryz.prog 30 [(Pd.rep En.SDesc d_),(Pi i_)] (Rq (Pi r_)):=by
 unfold zq at h;refine zbn Tryz.func30 J Tryz.ntmps30 (by rfl) (by simp) fun s0 a L=>?_;refine rA 2 L fun a s L=>?_;refine rs (sno (En.int .i64) 3 L fun a s L=>?_);refine es (wp_seq_k fun K1 H1=>?_);refine rA 1 L fun a s L=>?_;refine wp_block ?_;have J4:∀(l2:(List Int)) (og3:Option Nat) (a:Act) (s:St),Has N0 96 s0 a s [(1,(Pi i_)),(5,(Pd.row (En.int .i64) s0.w.heap.size 3 og3 l2))]→((zq.j1 i_ r_) l2)→K1 a s.w:=by
  intro l2 og3 a s L h;unfold zq.j1 at h;show K1 a s.w;refine H1 _ _ ?_;obtain ⟨e5,h6,h⟩:=h;refine ra 5 (p1 h6) L fun a s L=>?_;subst h;exact wp_ret (zdr J L J)
 obtain ⟨k10,h⟩:=h;refine lpn (fun k11 a s=>∃(l7:(List Int)) (k9:Int) (og8:Option Nat),Has N0 96 s0 a s [(1,(Pi i_)),(2,(Pd.ptr En.SDesc d_)),(5,(Pd.row (En.int .i64) s0.w.heap.size 3 og8 l7)),(6,(Pi k9))]∧zq.l1 d_ i_ (zq.j1 i_ r_) k11 l7 k9) k10 ⟨([]:(List Int)),0,none,L.kk,h⟩ ?_;rintro k11 a s ⟨l7,k9,og8,L,h⟩ KL12 hKL12;unfold zq.l1 at h;refine wp_seq_k fun K13 H13=>rA 3 L fun a s L=>?_;refine cn L h (fun h=>?_) fun h=>?_
 ·refine wp_skip (H13 _ _ ?_);refine wp_seq_k fun K14 H14=>wp_block ?_;obtain ⟨e15,h16,h⟩:=h;refine rs (sl 5 (p1 h16) L fun a s L=>?_);have lt_d18:=L.rlt 5 rfl;refine zz En.SNode (z:=(0,0,0,0,0,(0#256),([]:Str))) 7 L zko J J J J fun a s g17 hg_ L=>?_;have d18:=Dis.newg hg_ lt_d18;refine sB 7 L fun s L=>?_;refine es (rA 1 L fun a s L=>?_);refine wp_seq_k fun K19 H19=>rA 2 L fun a s L=>?_;refine wp_block (rA 2 L fun a s L=>?_);have J21:∀(w20:Int) (a:Act) (s:St),Has N0 96 s0 a s [(1,(Pi i_)),(2,(Pd.ptr En.SDesc d_)),(5,(Pd.row (En.int .i64) s0.w.heap.size 3 og8 l7)),(6,(Pi k9)),(8,(Pi w20))]→((zq.j2 (zq.l1 d_ i_ (zq.j1 i_ r_) k11) l7 k9) w20)→K19 a s.w:=by
   intro w20 a s L h;unfold zq.j2 at h;show K19 a s.w;refine H19 _ _ ?_;obtain ⟨h22,h⟩:=h;refine rg (sA 4 L fun a s L=>?_);refine zdx 91 L op op Ud.h Tq.h h22 J J J J ka fun a s og23 hg_ L=>?_;refine sA 1 L fun a s L=>?_;refine en' (H14 _ _ ?_);obtain ⟨h24,h⟩:=h;refine rg (sA 3 L fun a s L=>?_);refine en' ?_;exact hKL12 a s ⟨(l7++[(min 2 w20)]),(k9+1),og23,L.kk,h⟩
  refine cn L h (fun h=>?_) fun h=>?_
  ·refine rg ?_;refine sA 1 L fun a s L=>?_;refine en' ?_;exact J21 1 a s (L.kk) h
  ·refine rA 2 L fun a s L=>?_;refine cn L h (fun h=>?_) fun h=>?_
   ·obtain ⟨e25,h26,e27,h28,h29,h⟩:=h;refine rdx 11 (pp h26 (p1 h28)) L fun a s L=>?_;refine sA 1 L fun a s L=>?_;refine en' ?_;exact J21 (e25*e27) a s (L.kk) h
   ·refine rA 2 L fun a s L=>?_;refine cn L h (fun h=>?_) fun h=>?_
    ·obtain ⟨e30,h31,e32,h33,h34,h⟩:=h;refine rdx 11 (pp h31 (p1 h33)) L fun a s L=>?_;refine sA 1 L fun a s L=>?_;refine en' ?_;exact J21 (e30+e32) a s (L.kk) h
    ·refine rA 2 L fun a s L=>?_;refine cn L h (fun h=>?_) fun h=>?_
     ·refine rA 1 L fun a s L=>?_;obtain ⟨e35,h36,h⟩:=h;refine ra 6 (p1 h36) L fun a s L=>?_;refine cn L h (fun h=>?_) fun h=>?_
      ·refine rg ?_;refine sA 1 L fun a s L=>?_;refine en' ?_;exact J21 2 a s (L.kk) h
      ·refine wp_skip ?_;exact J21 1 a s (L.kk) h
     ·refine rA 2 L fun a s L=>?_;refine cn L h (fun h=>?_) fun h=>?_
      ·refine rA 3 L fun a s L=>?_;refine wp_block ?_;obtain ⟨k39,h⟩:=h;refine lpn (fun k40 a s=>∃(w37:Int) (t38:Int),Has N0 96 s0 a s [(1,(Pi i_)),(2,(Pd.ptr En.SDesc d_)),(5,(Pd.row (En.int .i64) s0.w.heap.size 3 og8 l7)),(6,(Pi k9)),(7,(Pd.box En.SNode s0.w.heap.size g17 e15)),(8,(Pi w37)),(9,(Pi t38))]∧Dis og8 (some g17)∧zq.l2 l7 e15 (zq.j2 (zq.l1 d_ i_ (zq.j1 i_ r_) k11) l7 k9) k40 w37 t38) k39 ⟨0,e15.2.2.2.1,L.kk,(Dis.symm d18),h⟩ ?_;rintro k40 a s ⟨w37,t38,L,d42,h⟩ KL41 hKL41;unfold zq.l2 at h;refine wp_seq_k fun K43 H43=>rA 4 L fun a s L=>?_;refine cn L h (fun h=>?_) fun h=>?_
       ·refine wp_skip (H43 _ _ ?_);refine wp_seq_k fun K44 H44=>wp_block (rA 1 L fun a s L=>?_);refine wp_seq_k fun K45 H45=>rA 1 L fun a s L=>?_;refine wp_block ?_;have J47:∀(p46:Int) (a:Act) (s:St),Has N0 96 s0 a s [(1,(Pi i_)),(2,(Pd.ptr En.SDesc d_)),(5,(Pd.row (En.int .i64) s0.w.heap.size 3 og8 l7)),(6,(Pi k9)),(7,(Pd.box En.SNode s0.w.heap.size g17 e15)),(8,(Pi w37)),(9,(Pi t38)),(10,(Pi p46))]→Dis og8 (some g17)→((zq.j3 (zq.l2 l7 e15 (zq.j2 (zq.l1 d_ i_ (zq.j1 i_ r_) k11) l7 k9) k40) w37 t38) p46)→K45 a s.w:=by
         intro p46 a s L d48 h;unfold zq.j3 at h;show K45 a s.w;refine H45 _ _ ?_;obtain ⟨h49,h⟩:=h;refine rg (sA 5 L fun a s L=>?_);refine en' (H44 _ _ ?_);obtain ⟨h50,h⟩:=h;refine rg (sA 3 L fun a s L=>?_);refine en' ?_;exact hKL41 a s ⟨(min 2 (w37+p46)),(t38+1),L.kk,d48,h⟩
        obtain ⟨k53,h⟩:=h;refine lpn (fun k54 a s=>∃(p51:Int) (m52:Int),Has N0 96 s0 a s [(1,(Pi i_)),(2,(Pd.ptr En.SDesc d_)),(5,(Pd.row (En.int .i64) s0.w.heap.size 3 og8 l7)),(6,(Pi k9)),(7,(Pd.box En.SNode s0.w.heap.size g17 e15)),(8,(Pi w37)),(9,(Pi t38)),(10,(Pi p51)),(11,(Pi m52))]∧Dis og8 (some g17)∧zq.l3 l7 e15 t38 (zq.j3 (zq.l2 l7 e15 (zq.j2 (zq.l1 d_ i_ (zq.j1 i_ r_) k11) l7 k9) k40) w37 t38) k54 p51 m52) k53 ⟨1,0,L.kk,d42,h⟩ ?_;rintro k54 a s ⟨p51,m52,L,d56,h⟩ KL55 hKL55;unfold zq.l3 at h;refine wp_seq_k fun K57 H57=>rA 3 L fun a s L=>?_;refine cn L h (fun h=>?_) fun h=>?_
        ·refine wp_skip (H57 _ _ ?_);refine wp_seq_k fun K58 H58=>wp_block ?_;obtain ⟨e59,h60,h61,h⟩:=h;refine rg (sl 9 (p1 h60) L fun a s L=>?_);refine en' (H58 _ _ ?_);obtain ⟨h62,h⟩:=h;refine rg (sA 3 L fun a s L=>?_);refine en' ?_;exact hKL55 a s ⟨(min 2 (p51*e59)),(m52+1),L.kk,d56,h⟩
        ·refine wp_exit ?_;exact J47 p51 a s (L.kk) d56 h
       ·refine wp_exit ?_;exact J21 w37 a s (L.kk) h
      ·refine wp_skip ?_;exact J21 0 a s (L.kk) h
 ·refine wp_exit ?_;exact J4 l7 og8 a s (L.kk) h
theorem zpu {d_:SDesc} {r_:(Int × Bool)} (h:zb4 d_ r_):Fn Tryz.prog 63 [(Pd.rep En.SDesc d_)] (Rq2 (Pi r_.1) (Pd.rep En.bool r_.2)):=by
 unfold zb4 at h;refine zbn Tryz.func63 J Tryz.ntmps63 (by rfl) (by simp) fun s0 a L=>?_;refine rA 3 L fun a s L=>?_;refine wp_seq_k fun K1 H1=>rA 1 L fun a s L=>?_;refine wp_block ?_;have J2:∀(a:Act) (s:St),Has N0 37 s0 a s []→((zb4.j1 r_))→K1 a s.w:=by
  intro a s L h;unfold zb4.j1 at h;show K1 a s.w;refine H1 _ _ (rA 2 L fun a s L=>?_);subst h;exact wp_ret (ret2 J L J J)
 obtain ⟨k4,h⟩:=h;refine lpn (fun k5 a s=>∃(i3:Int),Has N0 37 s0 a s [(1,(Pd.ptr En.SDesc d_)),(4,(Pi i3))]∧zb4.l1 d_ r_ (zb4.j1 r_) k5 i3) k4 ⟨0,L.kk,h⟩ ?_;rintro k5 a s ⟨i3,L,h⟩ KL6 hKL6;unfold zb4.l1 at h;refine wp_seq_k fun K7 H7=>rA 5 L fun a s L=>?_;refine cn L h (fun h=>?_) fun h=>?_
 ·refine wp_skip (H7 _ _ ?_);refine wp_seq_k fun K8 H8=>wp_block ?_;obtain ⟨e9,h10,h⟩:=h;refine ra 7 (p1 h10) L fun a s L=>?_;obtain ⟨e11,h12,r13,h14,h⟩:=h;refine wp_seq (rdx 17 (pp h12 (pp (fun hc_=>(zrl (h14 hc_))) trivial)) L fun a s L=>?_);refine es (cn L h (fun h=>?_) fun h=>?_)
  ·refine rA 3 L fun a s L=>?_;subst h;exact wp_ret (ret2 J L J J)
  ·refine wp_skip (H8 _ _ ?_);obtain ⟨h15,h⟩:=h;refine rg (sA 3 L fun a s L=>?_);refine en' ?_;exact hKL6 a s ⟨(i3+1),L.kk,h⟩
 ·refine wp_exit ?_;exact J2 a s (L.kk) h
theorem zpt {d_:SDesc} {r_:Bool} (h:zgw d_ r_):Fn Tryz.prog 36 [(Pd.rep En.SDesc d_)] (Rq (Pd.rep En.bool r_)):=by
 unfold zgw at h;refine zbn Tryz.func36 J Tryz.ntmps36 (by rfl) (by simp) fun s0 a L=>?_;refine rA 2 L fun a s L=>?_;refine wp_seq_k fun K1 H1=>?_;obtain ⟨r2,h3,h⟩:=h;refine ra 3 (p1 (zro h3)) L fun a s L=>?_;refine cn L h (fun h=>?_) fun h=>?_
 ·refine rA 1 L fun a s L=>?_;subst h;exact wp_ret (zdr J L J)
 ·refine wp_skip (H1 _ _ ?_);obtain ⟨r4,h5,h⟩:=h;refine ra 7 (p1 ((zpu h5).tup)) L fun a s L=>?_;refine rA 3 L fun a s L=>?_;subst h;exact wp_ret (zdr J L J)
set_option maxRecDepth 100000
set_option maxHeartbeats 2000000
set_option synthInstance.maxSize 100000
set_option synthInstance.maxHeartbeats 200000
theorem zfd {w_:(List Int)} {r_:(List Int)} (h:ze4 w_ r_):Fn Tryz.prog 76 [(Pd.rep (En.slice (En.int .u8)) w_)] (Ro (En.int .i64) 3 r_):=by
 unfold ze4 at h;refine zbn Tryz.func76 J Tryz.ntmps76 (by rfl) (by simp) fun s0 a L=>?_;refine rs (sno (En.int .i64) 3 L fun a s L=>?_);refine es ?_;obtain ⟨h1,h3,h⟩:=h;refine rs (sA 3 L fun a s L=>?_);refine st_makev (En.int .i64) (z:=0) (m:=(w_.length:Int)+1) 6 L op op h3 Ud.h Tq.h tyz3 J J J J fun a s g2 hg_ L=>?_;refine sA 1 L fun a s L=>?_;refine es ?_;subst h;exact wp_ret (zf3 J L J)
theorem zge {a_:(List Int)} {b_:(List Int)} {times_:Int} {r_:(List Int)} (h:zb2 a_ b_ times_ r_):Fn Tryz.prog 79 [(Pd.rep (En.slice (En.int .i64)) a_),(Pd.rep (En.slice (En.int .i64)) b_),(Pi times_)] (Ro (En.int .i64) 3 r_):=by
 unfold zb2 at h;refine zbn Tryz.func79 J Tryz.ntmps79 (by rfl) (by simp) fun s0 a L=>?_;refine rs (sno (En.int .i64) 3 L fun a s L=>?_);refine es ?_;obtain ⟨h2,h⟩:=h;refine rs (st_new (En.int .i64) 9 L Ud.h Tq.h J J J J fun a s g1 hg_ L=>?_);refine sA 1 L fun a s L=>?_;refine zdx 11 L op op Ud.h Tq.h h2 J J J J ka fun a s og3 hg_ L=>?_;refine sA 1 L fun a s L=>?_;refine es (wp_seq_k fun K4 H4=>?_);refine rA 1 L fun a s L=>?_;refine wp_block ?_;have J7:∀(out5:(List Int)) (og6:Option Nat) (a:Act) (s:St),Has N0 34 s0 a s [(7,(Pd.row (En.int .i64) s0.w.heap.size 3 og6 out5))]→((zb2.j1 r_) out5)→K4 a s.w:=by
  intro out5 og6 a s L h;unfold zb2.j1 at h;show K4 a s.w;refine H4 _ _ (rA 2 L fun a s L=>?_);subst h;exact wp_ret (zf3 J L J)
 obtain ⟨k11,h⟩:=h;refine lpn (fun k12 a s=>∃(out8:(List Int)) (i10:Int) (og9:Option Nat),Has N0 34 s0 a s [(1,(Pd.rep (En.slice (En.int .i64)) b_)),(2,(Pi times_)),(7,(Pd.row (En.int .i64) s0.w.heap.size 3 og9 out8)),(8,(Pi i10))]∧zb2.l1 b_ times_ (zb2.j1 r_) k12 out8 i10) k11 ⟨(([]:(List Int))++a_),0,og3,L.kk,h⟩ ?_;rintro k12 a s ⟨out8,i10,og9,L,h⟩ KL13 hKL13;unfold zb2.l1 at h;refine wp_seq_k fun K14 H14=>rA 4 L fun a s L=>?_;refine cn L h (fun h=>?_) fun h=>?_
 ·refine wp_skip (H14 _ _ ?_);refine wp_seq_k fun K15 H15=>wp_block ?_;obtain ⟨e16,h17,e18,h19,h20,h21,e22,h23,h⟩:=h;refine rdx 15 (pp h17 (pp h19 (p1 h23))) L fun a s L=>?_;refine zgr (off:=0) 7 L J h23 op op (zo _ _ _) Tq.h J J J kw fun s L=>?_;refine en' (H15 _ _ ?_);obtain ⟨h24,h⟩:=h;refine rg (sA 3 L fun a s L=>?_);refine en' ?_;exact hKL13 a s ⟨(out8.set (i10:Int).toNat (min 2 (e16+(times_*e18)))),(i10+1),og9,L.kk,h⟩
 ·refine wp_exit ?_;exact J7 out8 og9 a s (L.kk) h
theorem ref12_through.b_ok {n_:SDesc→Int→(List Int)→Int→(List Int)→Prop} (ih_:∀{y0_:SDesc} {y1_:Int} {y2_:(List Int)} {y3_:Int} {r_:(List Int)} (h:n_ y0_ y1_ y2_ y3_ r_),Fn Tryz.prog 50 [Pd.rep En.SDesc y0_,Pd.rep (En.int .i64) y1_,Pd.rep (En.slice (En.int .u8)) y2_,Pd.rep (En.int .i64) y3_] (Ro (En.int .i64) 3 r_)) {d_:SDesc} {i_:Int} {w_:(List Int)} {a_:(List Int)} {r_:(List Int)} (h:ref12_through.b n_ d_ i_ w_ a_ r_):Fn Tryz.prog 78 [(Pd.rep En.SDesc d_),(Pi i_),(Pd.rep (En.slice (En.int .u8)) w_),(Pd.rep (En.slice (En.int .i64)) a_)] (Ro (En.int .i64) 3 r_):=by
 unfold ref12_through.b at h;refine zbn Tryz.func78 J Tryz.ntmps78 (by rfl) (by simp) fun s0 a L=>?_;refine rs (sA 1 L fun a s L=>?_);refine sno (En.int .i64) 3 L fun a s L=>?_;refine es ?_;obtain ⟨r1,h2,h⟩:=h;refine rs (sA 1 L fun a s L=>?_);refine zcs 12 L (zfd h2) opz J J J J fun a s og3 hg_ L=>?_;refine sA 1 L fun a s L=>?_;refine es (wp_seq_k fun K4 H4=>?_);refine rA 1 L fun a s L=>?_;refine wp_block ?_;have J7:∀(out5:(List Int)) (og6:Option Nat) (a:Act) (s:St),Has N0 36 s0 a s [(9,(Pd.row (En.int .i64) s0.w.heap.size 3 og6 out5))]→((ref12_through.j1 r_) out5)→K4 a s.w:=by
  intro out5 og6 a s L h;unfold ref12_through.j1 at h;show K4 a s.w;refine H4 _ _ (rA 2 L fun a s L=>?_);subst h;exact wp_ret (zf3 J L J)
 obtain ⟨k11,h⟩:=h;refine lpn (fun k12 a s=>∃(out8:(List Int)) (k10:Int) (og9:Option Nat),Has N0 36 s0 a s [(1,(Pi i_)),(2,(Pd.rep (En.slice (En.int .u8)) w_)),(3,(Pd.rep (En.slice (En.int .i64)) a_)),(4,(Pd.ptr En.SDesc d_)),(9,(Pd.row (En.int .i64) s0.w.heap.size 3 og9 out8)),(10,(Pi k10))]∧ref12_through.l1 n_ d_ i_ w_ a_ (ref12_through.j1 r_) k12 out8 k10) k11 ⟨r1,0,og3,L.kk,h⟩ ?_;rintro k12 a s ⟨out8,k10,og9,L,h⟩ KL13 hKL13;unfold ref12_through.l1 at h;refine wp_seq_k fun K14 H14=>rA 4 L fun a s L=>?_;refine cn L h (fun h=>?_) fun h=>?_
 ·refine wp_skip (H14 _ _ ?_);refine wp_seq_k fun K15 H15=>wp_block ?_;obtain ⟨e16,h17,h⟩:=h;refine ra 5 (p1 h17) L fun a s L=>?_;refine cn L h (fun h=>?_) fun h=>?_
  ·refine fzc 9 L fun s L=>?_;obtain ⟨r18,h19,e20,h21,r22,h23,h⟩:=h;refine rdx 10 (pp ((ih_ h19).frz) (p1 h21)) L fun a s L=>?_;refine zcs 34 L (zge h23) opz J J J J fun a s og24 hg_ L=>?_;refine sA 1 L fun a s L=>?_;refine en' (H15 _ _ ?_);obtain ⟨h25,h⟩:=h;refine rg (sA 3 L fun a s L=>?_);refine en' ?_;exact hKL13 a s ⟨r22,(k10+1),og24,L.kk,h⟩
  ·refine wp_skip (H15 _ _ ?_);obtain ⟨h26,h⟩:=h;refine rg (sA 3 L fun a s L=>?_);refine en' ?_;exact hKL13 a s ⟨out8,(k10+1),og9,L.kk,h⟩
 ·refine wp_exit ?_;exact J7 out8 og9 a s (L.kk) h
theorem ref12_times.b_ok {n_:SDesc→Int→(List Int)→Int→(List Int)→Prop} (ih_:∀{y0_:SDesc} {y1_:Int} {y2_:(List Int)} {y3_:Int} {r_:(List Int)} (h:n_ y0_ y1_ y2_ y3_ r_),Fn Tryz.prog 50 [Pd.rep En.SDesc y0_,Pd.rep (En.int .i64) y1_,Pd.rep (En.slice (En.int .u8)) y2_,Pd.rep (En.int .i64) y3_] (Ro (En.int .i64) 3 r_)) {d_:SDesc} {i_:Int} {w_:(List Int)} {from_:Int} {lo_:Int} {hi_:Int} {r_:(List Int)} (h:ref12_times.b n_ d_ i_ w_ from_ lo_ hi_ r_):Fn Tryz.prog 80 [(Pd.rep En.SDesc d_),(Pi i_),(Pd.rep (En.slice (En.int .u8)) w_),(Pi from_),(Pi lo_),(Pi hi_)] (Ro (En.int .i64) 3 r_):=by
 unfold ref12_times.b at h;refine zbn Tryz.func80 J Tryz.ntmps80 (by rfl) (by simp) fun s0 a L=>?_;refine rs (sA 1 L fun a s L=>?_);refine sno (En.int .i64) 3 L fun a s L=>?_;refine es ?_;obtain ⟨r1,h2,h⟩:=h;refine rs (sA 1 L fun a s L=>?_);refine zcs 20 L (zfd h2) opz J J J J fun a s og3 hg_ L=>?_;refine sA 1 L fun a s L=>?_;refine es ?_;obtain ⟨e4,h5,h⟩:=h;refine rs (sl 3 (p1 h5) L fun a s L=>?_);refine zgr (off:=0) 13 L J h5 op op (zo _ _ _) Tq.h J J J kw fun s L=>?_;refine es ?_;obtain ⟨r6,h7,h⟩:=h;refine rs (sA 1 L fun a s L=>?_);have lt_d9:=L.rlt 13 rfl;refine zcs 25 L (zfd h7) opz J J J J fun a s og8 hg_ L=>?_;have d9:=Dis.new hg_ lt_d9;refine sA 1 L fun a s L=>?_;refine es (wp_seq_k fun K10 H10=>?_);refine rA 1 L fun a s L=>?_;refine wp_block ?_;have J13:∀(out11:(List Int)) (og12:Option Nat) (a:Act) (s:St),Has N0 72 s0 a s [(14,(Pd.row (En.int .i64) s0.w.heap.size 3 og12 out11))]→((ref12_times.j1 r_) out11)→K10 a s.w:=by
  intro out11 og12 a s L h;unfold ref12_times.j1 at h;show K10 a s.w;refine H10 _ _ (rA 2 L fun a s L=>?_);subst h;exact wp_ret (zf3 J L J)
 obtain ⟨k19,h⟩:=h;refine lpn (fun k20 a s=>∃(now14:(List Int)) (out16:(List Int)) (t18:Int) (og15:Option Nat) (og17:Option Nat),Has N0 72 s0 a s [(1,(Pi i_)),(2,(Pd.rep (En.slice (En.int .u8)) w_)),(4,(Pi lo_)),(5,(Pi hi_)),(6,(Pd.ptr En.SDesc d_)),(13,(Pd.row (En.int .i64) s0.w.heap.size 3 og15 now14)),(14,(Pd.row (En.int .i64) s0.w.heap.size 3 og17 out16)),(15,(Pi t18))]∧Dis og15 og17∧ref12_times.l1 n_ d_ i_ w_ lo_ hi_ r_ (ref12_times.j1 r_) k20 now14 out16 t18) k19 ⟨(r1.set (from_:Int).toNat 1),r6,0,og3,og8,L.kk,(Dis.symm d9),h⟩ ?_;rintro k20 a s ⟨now14,out16,t18,og15,og17,L,d22,h⟩ KL21 hKL21;unfold ref12_times.l1 at h;refine wp_seq_k fun K23 H23=>?_;obtain ⟨h24,h⟩:=h;refine rA 5 L fun a s L=>?_;refine cn L h (fun h=>?_) fun h=>?_
 ·refine wp_skip (H23 _ _ ?_);refine wp_seq_k fun K25 H25=>wp_block (wp_seq_k fun K26 H26=>?_);refine rA 3 L fun a s L=>?_;refine fzc 13 L fun s L=>?_;have J29:∀(out27:(List Int)) (og28:Option Nat) (a:Act) (s:St),Has N0 72 s0 a s [(1,(Pi i_)),(2,(Pd.rep (En.slice (En.int .u8)) w_)),(4,(Pi lo_)),(5,(Pi hi_)),(6,(Pd.ptr En.SDesc d_)),(13,(Pd.rep (En.slice (En.int .i64)) now14)),(14,(Pd.row (En.int .i64) s0.w.heap.size 3 og28 out27)),(15,(Pi t18))]→((ref12_times.j3 n_ (ref12_times.l1 n_ d_ i_ w_ lo_ hi_ r_ (ref12_times.j1 r_) k20) d_ i_ w_ hi_ r_ now14 t18) out27)→K26 a s.w:=by
   intro out27 og28 a s L h;unfold ref12_times.j3 at h;show K26 a s.w;refine H26 _ _ (wp_seq_k fun K30 H30=>?_);refine rA 3 L fun a s L=>?_;refine cn L h (fun h=>?_) fun h=>?_
   ·refine wp_exit ?_;exact J13 out27 og28 a s (L.kk) h
   ·refine wp_skip (H30 _ _ ?_);obtain ⟨r31,h32,h⟩:=h;refine rs (sA 1 L fun a s L=>?_);have lt_d34:=L.rlt 14 rfl;refine zcs 43 L (zfd h32) opz J J J J fun a s og33 hg_ L=>?_;have d34:=Dis.new hg_ lt_d34;refine sA 1 L fun a s L=>?_;refine es (wp_seq_k fun K35 H35=>?_);refine rA 1 L fun a s L=>?_;refine wp_block ?_;have J38:∀(next36:(List Int)) (og37:Option Nat) (a:Act) (s:St),Has N0 72 s0 a s [(1,(Pi i_)),(2,(Pd.rep (En.slice (En.int .u8)) w_)),(4,(Pi lo_)),(5,(Pi hi_)),(6,(Pd.ptr En.SDesc d_)),(14,(Pd.row (En.int .i64) s0.w.heap.size 3 og28 out27)),(15,(Pi t18)),(16,(Pd.row (En.int .i64) s0.w.heap.size 3 og37 next36))]→Dis og28 og37→((ref12_times.j2 (ref12_times.l1 n_ d_ i_ w_ lo_ hi_ r_ (ref12_times.j1 r_) k20) t18 out27) next36)→K35 a s.w:=by
     intro next36 og37 a s L d39 h;unfold ref12_times.j2 at h;show K35 a s.w;refine H35 _ _ (rg ?_);refine sA 2 L fun a s L=>?_;refine en' (H25 _ _ ?_);obtain ⟨h40,h⟩:=h;refine rg (sA 3 L fun a s L=>?_);refine en' ?_;exact hKL21 a s ⟨next36,out27,(t18+1),og37,og28,L.kk,(Dis.symm d39),h⟩
    obtain ⟨k44,h⟩:=h;refine lpn (fun k45 a s=>∃(next41:(List Int)) (k43:Int) (og42:Option Nat),Has N0 72 s0 a s [(1,(Pi i_)),(2,(Pd.rep (En.slice (En.int .u8)) w_)),(4,(Pi lo_)),(5,(Pi hi_)),(6,(Pd.ptr En.SDesc d_)),(13,(Pd.rep (En.slice (En.int .i64)) now14)),(14,(Pd.row (En.int .i64) s0.w.heap.size 3 og28 out27)),(15,(Pi t18)),(16,(Pd.row (En.int .i64) s0.w.heap.size 3 og42 next41)),(17,(Pi k43))]∧Dis og28 og42∧ref12_times.l2 n_ d_ i_ w_ now14 (ref12_times.j2 (ref12_times.l1 n_ d_ i_ w_ lo_ hi_ r_ (ref12_times.j1 r_) k20) t18 out27) k45 next41 k43) k44 ⟨r31,0,og33,L.kk,(Dis.symm d34),h⟩ ?_;rintro k45 a s ⟨next41,k43,og42,L,d47,h⟩ KL46 hKL46;unfold ref12_times.l2 at h;refine wp_seq_k fun K48 H48=>rA 4 L fun a s L=>?_;refine cn L h (fun h=>?_) fun h=>?_
    ·refine wp_skip (H48 _ _ ?_);refine wp_seq_k fun K49 H49=>wp_block ?_;obtain ⟨e50,h51,h⟩:=h;refine ra 5 (p1 h51) L fun a s L=>?_;refine cn L h (fun h=>?_) fun h=>?_
     ·obtain ⟨r52,h53,h⟩:=h;refine rs (sA 4 L fun a s L=>?_);have lt_d56:=L.rlt 16 rfl;have lt_d55:=L.rlt 14 rfl;refine zcs 59 L (ih_ h53) opz J J J J fun a s og54 hg_ L=>?_;have d55:=Dis.new hg_ lt_d55;have d56:=Dis.new hg_ lt_d56;refine sA 1 L fun a s L=>?_;refine es ?_;obtain ⟨e57,h58,h⟩:=h;refine rs (sl 3 (p1 h58) L fun a s L=>?_);refine zgr (off:=0) 18 L J h58 op op (zo _ _ _) Tq.h J J J kw fun s L=>?_;refine es (fzc 16 L fun s L=>?_);refine fzc 18 L fun s L=>?_;obtain ⟨e59,h60,r61,h62,h⟩:=h;refine rg (sl 6 (p1 h60) L fun a s L=>?_);have lt_d64:=L.rlt 14 rfl;refine zcs 69 L (zge h62) opz J J J J fun a s og63 hg_ L=>?_;have d64:=Dis.new hg_ lt_d64;refine sA 1 L fun a s L=>?_;refine en' (H49 _ _ ?_);obtain ⟨h65,h⟩:=h;refine rg (sA 3 L fun a s L=>?_);refine en' ?_;exact hKL46 a s ⟨r61,(k43+1),og63,L.kk,(Dis.symm d64),h⟩
     ·refine wp_skip (H49 _ _ ?_);obtain ⟨h66,h⟩:=h;refine rg (sA 3 L fun a s L=>?_);refine en' ?_;exact hKL46 a s ⟨next41,(k43+1),og42,L.kk,d47,h⟩
    ·refine wp_exit ?_;exact J38 next41 og42 a s (L.kk) d47 h
  refine cn L h (fun h=>?_) fun h=>?_
  ·refine fzc 14 L fun s L=>?_;obtain ⟨r67,h68,h⟩:=h;refine rg (sA 2 L fun a s L=>?_);refine zcs 38 L (zge h68) opz J J J J fun a s og69 hg_ L=>?_;refine sA 1 L fun a s L=>?_;refine en' ?_;exact J29 r67 og69 a s (L.kk) h
  ·refine wp_skip ?_;exact J29 out16 og17 a s (L.kk) h
 ·refine wp_exit ?_;exact J13 out16 og17 a s (L.kk) h
theorem zce.n_ok (k_:Nat):∀{d_:SDesc} {i_:Int} {w_:(List Int)} {from_:Int} {r_:(List Int)} (h:zce.n k_ d_ i_ w_ from_ r_),Fn Tryz.prog 50 [(Pd.rep En.SDesc d_),(Pi i_),(Pd.rep (En.slice (En.int .u8)) w_),(Pi from_)] (Ro (En.int .i64) 3 r_):=by
 induction k_ with
 | zero=>intro d_ i_ w_ from_ r_ h;exact h.elim
 | succ k_ ih_=>
 intro d_ i_ w_ from_ r_ h;unfold zce.n at h;refine zbn Tryz.func50 J Tryz.ntmps50 (by rfl) (by simp) fun s0 a L=>?_;refine rs (sA 1 L fun a s L=>?_);refine sno (En.int .i64) 3 L fun a s L=>?_;refine es ?_;obtain ⟨e1,h2,h⟩:=h;refine rs (sl 5 (p1 h2) L fun a s L=>?_);refine zz En.SNode (z:=(0,0,0,0,0,(0#256),([]:Str))) 9 L zko J J J J fun a s g3 hg_ L=>?_;refine sB 9 L fun s L=>?_;refine es ?_;obtain ⟨r4,h5,h⟩:=h;refine rs (sA 1 L fun a s L=>?_);have lt_d7:=L.blt 9 rfl;refine zcs 19 L (zfd h5) opz J J J J fun a s og6 hg_ L=>?_;have d7:=Dis.new hg_ lt_d7;refine sA 1 L fun a s L=>?_;refine es (wp_seq_k fun K8 H8=>?_);refine rA 2 L fun a s L=>?_;refine wp_block (rA 2 L fun a s L=>?_);refine cn L h (fun h=>?_) fun h=>?_
 ·obtain ⟨e9,h10,h⟩:=h;refine rg (sl 3 (p1 h10) L fun a s L=>?_);refine zgr (off:=0) 10 L J h10 op op (zo _ _ _) Tq.h J J J kw fun s L=>?_;refine en' (H8 _ _ ?_);refine rA 2 L fun a s L=>?_;subst h;exact wp_ret (zf3 J L J)
 ·refine rA 2 L fun a s L=>?_;refine cn L h (fun h=>?_) fun h=>?_
  ·obtain ⟨e11,h12,r13,h14,h⟩:=h;refine wp_seq (rdx 13 (pp h12 (pp (fun hc_=>(ref01_Has_ok (h14 hc_))) trivial)) L fun a s L=>?_);refine es (cn L h (fun h=>?_) fun h=>?_)
   ·obtain ⟨h15,e16,h17,h⟩:=h;refine rg (sl 4 (p1 h17) L fun a s L=>?_);refine zgr (off:=0) 10 L J h17 op op (zo _ _ _) Tq.h J J J kw fun s L=>?_;refine en' (H8 _ _ ?_);refine rA 2 L fun a s L=>?_;subst h;exact wp_ret (zf3 J L J)
   ·refine wp_skip (H8 _ _ ?_);refine rA 2 L fun a s L=>?_;subst h;exact wp_ret (zf3 J L J)
  ·refine rA 2 L fun a s L=>?_;refine cn L h (fun h=>?_) fun h=>?_
   ·obtain ⟨h18,b19,h20,h21,h22,b23,h24,h⟩:=h;refine wp_seq (rdx 22 (pp h20 (p1 h24)) L fun a s L=>?_);refine es (cn L h (fun h=>?_) fun h=>?_)
    ·obtain ⟨h25,e26,h27,h⟩:=h;refine rg (sl 7 (p1 h27) L fun a s L=>?_);refine zgr (off:=0) 10 L J h27 op op (zo _ _ _) Tq.h J J J kw fun s L=>?_;refine en' (H8 _ _ ?_);refine rA 2 L fun a s L=>?_;subst h;exact wp_ret (zf3 J L J)
    ·refine wp_skip (H8 _ _ ?_);refine rA 2 L fun a s L=>?_;subst h;exact wp_ret (zf3 J L J)
   ·refine rA 2 L fun a s L=>?_;refine cn L h (fun h=>?_) fun h=>?_
    ·obtain ⟨r28,h29,r30,h31,h⟩:=h;refine wp_seq (rdx 10 (p1 ((ih_ h29).frz)) L fun a s L=>?_);have lt_d34:=L.rlt 19 rfl;have lt_d33:=L.blt 9 rfl;refine zcs 89 L (ref12_through.b_ok ih_ h31) opz J J J J fun a s og32 hg_ L=>?_;have d33:=Dis.new hg_ lt_d33;have d34:=Dis.new hg_ lt_d34;refine sA 1 L fun a s L=>?_;refine es ?_;subst h;exact wp_ret (zf3 J L J)
    ·refine rA 2 L fun a s L=>?_;refine cn L h (fun h=>?_) fun h=>?_
     ·obtain ⟨r35,h36,r37,h38,r39,h40,h⟩:=h;refine wp_seq (rdx 12 (pp ((ih_ h36).frz) (p1 ((ih_ h38).frz))) L fun a s L=>?_);have lt_d43:=L.rlt 19 rfl;have lt_d42:=L.blt 9 rfl;refine zcs 104 L (zge h40) opz J J J J fun a s og41 hg_ L=>?_;have d42:=Dis.new hg_ lt_d42;have d43:=Dis.new hg_ lt_d43;refine sA 1 L fun a s L=>?_;refine es ?_;subst h;exact wp_ret (zf3 J L J)
     ·refine rA 2 L fun a s L=>?_;refine cn L h (fun h=>?_) fun h=>?_
      ·obtain ⟨r44,h45,h⟩:=h;refine rs (sA 5 L fun a s L=>?_);have lt_d48:=L.rlt 19 rfl;have lt_d47:=L.blt 9 rfl;refine zcs 112 L (ref12_times.b_ok ih_ h45) opz J J J J fun a s og46 hg_ L=>?_;have d47:=Dis.new hg_ lt_d47;have d48:=Dis.new hg_ lt_d48;refine sA 1 L fun a s L=>?_;refine es ?_;subst h;exact wp_ret (zf3 J L J)
      ·refine rA 2 L fun a s L=>?_;refine cn L h (fun h=>?_) fun h=>?_
       ·obtain ⟨r49,h50,h⟩:=h;refine rs (sA 9 L fun a s L=>?_);have lt_d53:=L.rlt 19 rfl;have lt_d52:=L.blt 9 rfl;refine zcs 124 L (ref12_times.b_ok ih_ h50) opz J J J J fun a s og51 hg_ L=>?_;have d52:=Dis.new hg_ lt_d52;have d53:=Dis.new hg_ lt_d53;refine sA 1 L fun a s L=>?_;refine es ?_;subst h;exact wp_ret (zf3 J L J)
       ·refine rA 2 L fun a s L=>?_;refine cn L h (fun h=>?_) fun h=>?_
        ·refine rA 4 L fun a s L=>?_;refine cn L h (fun h=>?_) fun h=>?_
         ·obtain ⟨h54,e55,h56,h57,h⟩:=h;refine ra 9 (p1 h56) L fun a s L=>?_;refine rA 4 L fun a s L=>?_;refine cn L h (fun h=>?_) fun h=>?_
          ·obtain ⟨h58,h59,r60,h61,e62,h63,e64,h65,h⟩:=h;refine rdx 15 (pp ((ih_ h61).frz) (pp h63 (p1 h65))) L fun a s L=>?_;refine zgr (off:=0) 10 L J h65 op op (zo _ _ _) Tq.h J J J kw fun s L=>?_;refine en' (H8 _ _ ?_);refine rA 2 L fun a s L=>?_;subst h;exact wp_ret (zf3 J L J)
          ·refine wp_skip (H8 _ _ ?_);refine rA 2 L fun a s L=>?_;subst h;exact wp_ret (zf3 J L J)
         ·refine wp_skip (H8 _ _ ?_);refine rA 2 L fun a s L=>?_;subst h;exact wp_ret (zf3 J L J)
        ·refine rA 2 L fun a s L=>?_;refine cn L h (fun h=>?_) fun h=>?_
         ·obtain ⟨h66,h⟩:=h;refine rA 5 L fun a s L=>?_;refine cn L h (fun h=>?_) fun h=>?_
          ·obtain ⟨h67,e68,h69,h70,h71,h72,e73,h74,h75,h⟩:=h;refine wp_seq (rdx 16 (pp h69 (p1 h74)) L fun a s L=>?_);refine sA 1 L fun a s L=>?_;refine es ?_;obtain ⟨b76,h77,h⟩:=h;refine ra 4 (p1 h77) L fun a s L=>?_;refine cn L h (fun h=>?_) fun h=>?_
           ·obtain ⟨h78,h79,r80,h81,e82,h83,e84,h85,h⟩:=h;refine rdx 15 (pp ((ih_ h81).frz) (pp h83 (p1 h85))) L fun a s L=>?_;refine zgr (off:=0) 10 L J h85 op op (zo _ _ _) Tq.h J J J kw fun s L=>?_;refine en' (H8 _ _ ?_);refine rA 2 L fun a s L=>?_;subst h;exact wp_ret (zf3 J L J)
           ·refine wp_skip (H8 _ _ ?_);refine rA 2 L fun a s L=>?_;subst h;exact wp_ret (zf3 J L J)
          ·refine wp_skip (H8 _ _ ?_);refine rA 2 L fun a s L=>?_;subst h;exact wp_ret (zf3 J L J)
         ·refine wp_skip (H8 _ _ ?_);refine rA 2 L fun a s L=>?_;subst h;exact wp_ret (zf3 J L J)
theorem zrk {d_:SDesc} {i_:Int} {w_:(List Int)} {from_:Int} {r_:(List Int)} (h:zce d_ i_ w_ from_ r_):Fn Tryz.prog 50 [(Pd.rep En.SDesc d_),(Pi i_),(Pd.rep (En.slice (En.int .u8)) w_),(Pi from_)] (Ro (En.int .i64) 3 r_):=by
 obtain ⟨k_,h⟩:=h;exact zce.n_ok k_ h
theorem zk8 {d_:SDesc} {w_:(List Int)} {r_:Int} (h:zhw d_ w_ r_):Fn Tryz.prog 20 [(Pd.rep En.SDesc d_),(Pd.rep (En.slice (En.int .u8)) w_)] (Rq (Pi r_)):=by
 unfold zhw at h;refine zbn Tryz.func20 J Tryz.ntmps20 (by rfl) (by simp) fun s0 a L=>?_;refine rA 2 L fun a s L=>?_;obtain ⟨h1,r2,h3,e4,h5,h⟩:=h;refine ra 12 (pp ((zrk h3).frz) (p1 h5)) L fun a s L=>?_;subst h;exact wp_ret (zdr J L J)
set_option maxRecDepth 100000
set_option maxHeartbeats 2000000
set_option synthInstance.maxSize 100000
set_option synthInstance.maxHeartbeats 200000
theorem zr6 {s_:(List SItem)} {r_:((List SItem) × Bool)} (h:zcn s_ r_):Fn Tryz.prog 131 [(Pd.rep (En.slice En.SItem) s_)] (Ro2 En.SItem 126 r_.1 (Pd.rep En.bool r_.2)):=by
 unfold zcn at h;refine zbn Tryz.func131 J Tryz.ntmps131 (by rfl) (by simp) fun s0 a L=>?_;refine rs (sno En.SItem 126 L fun a s L=>?_);refine sA 1 L fun a s L=>?_;refine es ?_;obtain ⟨r1,h2,h⟩:=h;refine rs (sA 1 L fun a s L=>?_);refine zcs 8 L (zdh h2) opz J J J J fun a s og3 hg_ L=>?_;refine sA 1 L fun a s L=>?_;refine es (wp_seq_k fun K4 H4=>?_);refine rA 3 L fun a s L=>?_;refine wp_block ?_;have J7:∀(out5:(List SItem)) (og6:Option Nat) (a:Act) (s:St),Has N0 32 s0 a s [(4,(Pd.row En.SItem s0.w.heap.size 126 og6 out5))]→((zcn.j1 r_) out5)→K4 a s.w:=by
  intro out5 og6 a s L h;unfold zcn.j1 at h;show K4 a s.w;refine H4 _ _ (rA 3 L fun a s L=>?_);subst h;exact wp_ret (zm2 J L J J)
 obtain ⟨k11,h⟩:=h;refine lpn (fun k12 a s=>∃(out8:(List SItem)) (v10:Int) (og9:Option Nat),Has N0 32 s0 a s [(4,(Pd.row En.SItem s0.w.heap.size 126 og9 out8)),(9,(Pd.row En.SItem s0.w.heap.size 126 og9 out8)),(10,(Pi (r1.length:Int))),(11,(Pi v10))]∧zcn.l1 r1 r_ (zcn.j1 r_) k12 out8 v10) k11 ⟨r1,0,og3,L.kk,h⟩ ?_;rintro k12 a s ⟨out8,v10,og9,L,h⟩ KL13 hKL13;unfold zcn.l1 at h;refine rA 1 L fun a s L=>?_;refine wp_seq_k fun K14 H14=>cn L h (fun h=>?_) fun h=>?_
 ·refine wp_skip (H14 _ _ ?_);refine wp_seq_k fun K15 H15=>wp_block ?_;obtain ⟨e16,h17,h⟩:=h;refine rs (sl 3 (p1 h17) L fun a s L=>?_);have lt_d19:=L.rlt 4 rfl;refine zz En.SItem (z:=(0,0,0,0)) 6 L zga J J J J fun a s g18 hg_ L=>?_;have d19:=Dis.newg hg_ lt_d19;refine sA 1 L fun a s L=>?_;refine sB 6 L fun s L=>?_;refine es (wp_seq_k fun K20 H20=>?_);refine rA 3 L fun a s L=>?_;refine cn L h (fun h=>?_) fun h=>?_
  ·refine wp_exit ?_;show K15 a s.w;refine H15 _ _ ?_;obtain ⟨h21,h⟩:=h;refine rg (sA 2 L fun a s L=>?_);refine en' ?_;exact hKL13 a s ⟨out8,(v10+1),og9,L.kk,h⟩
  ·refine wp_skip (H20 _ _ ?_);refine wp_seq_k fun K22 H22=>rA 3 L fun a s L=>?_;refine cn L h (fun h=>?_) fun h=>?_
   ·refine rs ?_;refine sno En.SItem 126 L fun a s L=>?_;refine sA 1 L fun a s L=>?_;refine es ?_;subst h;exact wp_ret (zm2 J L J J)
   ·refine wp_skip (H22 _ _ ?_);obtain ⟨e23,h24,h25,e26,h27,h⟩:=h;refine rg (sl 8 (pp h24 (p1 h27)) L fun a s L=>?_);refine zgr (off:=2) 4 L J h27 op op (zk (zk (z7 (zo _ _ _)) J) J) Tq.h J J J kw fun s L=>?_;refine en' (H15 _ _ ?_);obtain ⟨h28,h⟩:=h;refine rg (sA 2 L fun a s L=>?_);refine en' ?_;exact hKL13 a s ⟨(out8.set (v10:Int).toNat (e26.1,e26.2.1,e23.2.2.1-1,e26.2.2.2)),(v10+1),og9,L.kk,h⟩
 ·refine wp_exit ?_;exact J7 out8 og9 a s (L.kk) h
theorem zr5 {d_:SDesc} {r_:(List SItem)} (h:zj6 d_ r_):Fn Tryz.prog 45 [(Pd.rep En.SDesc d_)] (Ro En.SItem 126 r_):=by
 unfold zj6 at h;refine zbn Tryz.func45 J Tryz.ntmps45 (by rfl) (by simp) fun s0 a L=>?_;refine rs (sA 1 L fun a s L=>?_);refine sno En.SItem 126 L fun a s L=>?_;refine es ?_;obtain ⟨h1,h⟩:=h;refine rs (sA 4 L fun a s L=>?_);refine sv (zbj (x:=(1,(d_.length:Int)-1,0,0)) (ps:=[(0,.const (.int .i64 1)),(1,.tmp 6)]) zga J zmm (.cons (i:=0) op J (z7 (zo _ _ _)) (.cons (i:=1) op J (zk (z7 (zo _ _ _)) J) .nil)) J J) L fun a s L=>?_;refine zf5 (xs:=[.tmp 7]) 8 L (.cons op .nil) Ud.h Tq.h J J (by decide) J J J J fun a s g2 hg_ L=>?_;refine sA 1 L fun a s L=>?_;refine es ?_;subst h;exact wp_ret (zf3 J L J)
set_option maxRecDepth 100000
set_option maxHeartbeats 2000000
set_option synthInstance.maxSize 100000
set_option synthInstance.maxHeartbeats 200000
theorem zpz {d_:SDesc} {s_:(List SItem)} {r_:Bool} (h:zkw d_ s_ r_):Fn Tryz.prog 160 [(Pd.rep En.SDesc d_),(Pd.rep (En.slice En.SItem) s_)] (Rq (Pd.rep En.bool r_)):=by
 unfold zkw at h;refine zbn Tryz.func160 J Tryz.ntmps160 (by rfl) (by simp) fun s0 a L=>?_;refine rA 2 L fun a s L=>?_;refine wp_seq_k fun K1 H1=>rA 3 L fun a s L=>?_;refine cn L h (fun h=>?_) fun h=>?_
 ·refine rA 1 L fun a s L=>?_;subst h;exact wp_ret (zdr J L J)
 ·refine wp_skip (H1 _ _ ?_);refine wp_seq_k fun K2 H2=>?_;obtain ⟨e3,h4,h⟩:=h;refine rs (sl 3 (p1 h4) L fun a s L=>?_);refine zz En.SItem (z:=(0,0,0,0)) 5 L zga J J J J fun a s g5 hg_ L=>?_;refine sB 5 L fun s L=>?_;refine es (rA 2 L fun a s L=>?_);refine wp_block (rA 2 L fun a s L=>?_);refine cn L h (fun h=>?_) fun h=>?_
  ·obtain ⟨e6,h7,h⟩:=h;refine ra 8 (p1 h7) L fun a s L=>?_;obtain ⟨e8,h9,h⟩:=h;refine rs (sA 4 L fun a s L=>?_);refine sv (zfk J J J (fun hc_=>t_gidxb (g:=2) (xs:=gdat2) (by simp [gtab]) J (opc hc_) (h9 hc_) Ud.h (by rfl) J J)) L fun a s L=>?_;refine sA 3 L fun a s L=>?_;refine es ?_;subst h;exact wp_ret (zdr J L J)
  ·refine wp_seq_k fun K10 H10=>?_;refine rA 2 L fun a s L=>?_;refine cn L h (fun h=>?_) fun h=>?_
   ·refine wp_skip (H10 _ _ ?_);refine cn L h (fun h=>?_) fun h=>?_
    ·refine rA 1 L fun a s L=>?_;subst h;exact wp_ret (zdr J L J)
    ·refine wp_skip (H2 _ _ ?_);refine rA 1 L fun a s L=>?_;subst h;exact wp_ret (zdr J L J)
   ·refine rg ?_;refine sA 2 L fun a s L=>?_;refine en' (H10 _ _ ?_);refine cn L h (fun h=>?_) fun h=>?_
    ·refine rA 1 L fun a s L=>?_;subst h;exact wp_ret (zdr J L J)
    ·refine wp_skip (H2 _ _ ?_);refine rA 1 L fun a s L=>?_;subst h;exact wp_ret (zdr J L J)
theorem zcj {rest_:(List SItem)} {list_:(List SItem)} {r_:(List SItem)} (h:zco rest_ list_ r_):Fn Tryz.prog 199 [(Pd.rep (En.slice En.SItem) rest_),(Pd.rep (En.slice En.SItem) list_)] (Ro En.SItem 126 r_):=by
 unfold zco at h;refine zbn Tryz.func199 J Tryz.ntmps199 (by rfl) (by simp) fun s0 a L=>?_;refine rs (sno En.SItem 126 L fun a s L=>?_);refine es ?_;obtain ⟨r1,h2,h⟩:=h;refine rs (sA 3 L fun a s L=>?_);refine zcs 8 L (zde h2) opz J J J J fun a s og3 hg_ L=>?_;refine sA 1 L fun a s L=>?_;refine es ?_;subst h;exact wp_ret (zf3 J L J)
theorem zel {i_:Int} {r_:SItem} (h:ze7 i_ r_):Fn Tryz.prog 200 [(Pi i_)] (Rq (Pd.rep En.SItem r_)):=by
 unfold ze7 at h;refine zbn Tryz.func200 J Tryz.ntmps200 (by rfl) (by simp) fun s0 a L=>?_;refine rs (zz En.SItem (z:=(0,0,0,0)) 2 L zga J J J J fun a s g1 hg_ L=>?_);refine es (rs ?_);refine sA 1 L fun a s L=>?_;refine sv (zbj (x:=(1,i_,0,0)) (ps:=[(0,.const (.int .i64 1)),(1,.tmp 3)]) zga J zmm (.cons (i:=0) op J (z7 (zo _ _ _)) (.cons (i:=1) op J (zk (z7 (zo _ _ _)) J) .nil)) J J) L fun a s L=>?_;refine sB 2 L fun s L=>?_;refine es ?_;subst h;exact wp_ret (retb J zi0 L J)
theorem zr9 {d_:SDesc} {s_:(List SItem)} {r_:(List (List SItem))} (h:zc2 d_ s_ r_):Fn Tryz.prog 162 [(Pd.rep En.SDesc d_),(Pd.rep (En.slice En.SItem) s_)] (Ro (En.slice En.SItem) 77 r_):=by
 unfold zc2 at h;refine zbn Tryz.func162 J Tryz.ntmps162 (by rfl) (by simp) fun s0 a L=>?_;refine rs (sA 1 L fun a s L=>?_);refine sno (En.slice En.SItem) 77 L fun a s L=>?_;refine es ?_;obtain ⟨e2,h3,h4,h⟩:=h;refine wp_seq ?_;replace L:=L.kk (L':=[(1,(Pd.rep (En.slice En.SItem) s_)),(2,(Pd.ptr En.SDesc d_))]);obtain ⟨K1,H1,nK1,L⟩:=L.mark 999983;refine rdf 8 zck L (by kernel_rfl) fun s _ L=>?_;refine zei 3 12 L (by rfl) (by kernel_rfl) (by kernel_rfl) (by kernel_rfl) (fun _ _ _ _ h=>h) (q:=(Pd.rep (En.slice En.SItem) s_)) (ziu (O 1 J) J J) J J fun a L=>?_;refine zei 4 13 L (by rfl) (by kernel_rfl) (by kernel_rfl) (by kernel_rfl) (fun _ _ _ _ h=>h) (q:=(Pd.rep (En.slice En.SItem) (s_.drop (1:Int).toNat))) (y_from (O 12 J) oI h4 U77 zi0 J J) J J fun a L=>?_;refine rc_go 6 [(Pd.rep (En.slice En.SItem) s_),(Pd.ptr En.SItem e2),(Pd.rep En.SItem e2),(Pd.rep (En.slice En.SItem) s_),(Pd.rep (En.slice En.SItem) (s_.drop (1:Int).toNat)),(Pd.ebox En.SItem s0.w.heap.size K1 (0,0,0,0))] [3,4] K1 [5] nK1 L (.k 13 (.k 12 (.k 999983 (.k 1 (.k 2 .nil))))) (by kernel_rfl) (by kernel_rfl) (by kernel_rfl) (by kernel_rfl) (.cons (i:=3) J J J J (.cons (i:=4) J J J J .nil)) J J ?_ ?_
 ·refine zm7.t (zj (O 1 J) J J) nE ?_;refine zm7.t (zkb (O 9 J) oI h3 U77 zi0 J J) nE ?_;refine zm7.t (zw zi0 (O 10 J) J J) nE ?_;refine zm7.skip J nE ?_;refine zm7.skip J nE ?_;refine zm7.c (t_allocx En.SItem (z:=(0,0,0,0)) (K:=K1) (m:=999983) J nK1 zga J J) J ?_;exact zm7.nil
 intro a s _ L;obtain ⟨g5,hg_,L⟩:=L.openb 5 rfl;replace L:=L.kk (L':=[(2,(Pd.ptr En.SDesc d_)),(5,(Pd.box En.SItem s0.w.heap.size g5 (0,0,0,0))),(11,(Pd.rep En.SItem e2)),(13,(Pd.rep (En.slice En.SItem) (s_.drop (1:Int).toNat)))]);refine dp ?_;refine sB 5 L fun s L=>?_;refine sA 1 L fun a s L=>?_;refine es ?_;obtain ⟨e6,h7,h⟩:=h;refine rs (sl 6 (p1 h7) L fun a s L=>?_);have lt_d9:=L.blt 5 rfl;refine zz En.SNode (z:=(0,0,0,0,0,(0#256),([]:Str))) 7 L zko J J J J fun a s g8 hg_ L=>?_;have d9:=Dis.newg hg_ lt_d9;refine sB 7 L fun s L=>?_;refine es (wp_seq_k fun K10 H10=>?_);refine wp_block (rA 9 L fun a s L=>?_);refine cn L h (fun h=>?_) fun h=>?_
 ·obtain ⟨r11,h12,h⟩:=h;refine rs (sl 2 (p1 ((zcj h12).frz)) L fun a s L=>?_);have lt_d15:=L.blt 7 rfl;have lt_d14:=L.blt 5 rfl;refine zf5 (xs:=[.tmp 30]) 31 L (.cons op .nil) Ud.h Tq.h J J (by decide) J J J J fun a s g13 hg_ L=>?_;have d14:=Dis.newg hg_ lt_d14;have d15:=Dis.newg hg_ lt_d15;refine sA 1 L fun a s L=>?_;refine es ?_;subst h;exact wp_ret (zf3 J L J)
 ·refine rA 4 L fun a s L=>?_;refine cn L h (fun h=>?_) fun h=>?_
  ·refine rs ?_;refine sno (En.slice En.SItem) 77 L fun a s L=>?_;refine es ?_;subst h;exact wp_ret (zf3 J L J)
  ·refine rA 4 L fun a s L=>?_;refine cn L h (fun h=>?_) fun h=>?_
   ·refine rs ?_;refine sno (En.slice En.SItem) 77 L fun a s L=>?_;refine es (wp_seq_k fun K16 H16=>?_);refine rA 3 L fun a s L=>?_;have J19:∀(out17:(List (List SItem))) (og18:Option Nat) (a:Act) (s:St),Has N0 139 s0 a s [(5,(Pd.box En.SItem s0.w.heap.size g5 e2)),(6,(Pd.rep (En.slice En.SItem) (s_.drop (1:Int).toNat))),(7,(Pd.box En.SNode s0.w.heap.size g8 e6)),(8,(Pd.row (En.slice En.SItem) s0.w.heap.size 77 og18 out17))]→Dis (some g5) (some g8)→Dis (some g5) og18→Dis (some g8) og18→((zc2.j2 s_ r_ e2 e6) out17)→K16 a s.w:=by
     intro out17 og18 a s L d20 d21 d22 h;unfold zc2.j2 at h;show K16 a s.w;refine H16 _ _ (wp_seq_k fun K23 H23=>?_);refine rA 3 L fun a s L=>?_;have J26:∀(out24:(List (List SItem))) (og25:Option Nat) (a:Act) (s:St),Has N0 139 s0 a s [(8,(Pd.row (En.slice En.SItem) s0.w.heap.size 77 og25 out24))]→((zc2.j1 r_) out24)→K23 a s.w:=by
      intro out24 og25 a s L h;unfold zc2.j1 at h;show K23 a s.w;refine H23 _ _ (rA 2 L fun a s L=>?_);subst h;exact wp_ret (zf3 J L J)
     refine cn L h (fun h=>?_) fun h=>?_
     ·obtain ⟨r27,h28,h29,h30,r31,h32,h33,h⟩:=h;refine rda zck 20 [(Pd.row (En.slice En.SItem) s0.w.heap.size 77 og18 out17),(Pd.rep (En.slice En.SItem) (s_.drop (1:Int).toNat)),(Pd.optr (En.int .i64) s0.w.heap.size (some g8) (1) e6.2.1),(Pi e6.2.1),(Pd.rep En.SItem r27),(Pd.optr (En.int .i64) s0.w.heap.size (some g5) (0) e2.1),(Pi e2.1),(Pd.optr (En.int .i64) s0.w.heap.size (some g5) (1) e2.2.1),(Pi e2.2.1),(Pd.optr (En.int .i64) s0.w.heap.size (some g5) (2) e2.2.2.1),(Pi e2.2.2.1),(Pi (e2.2.2.1-1)),(Pi (max (e2.2.2.1-1) 0)),(Pd.optr (En.int .i64) s0.w.heap.size (some g5) (3) e2.2.2.2),(Pi e2.2.2.2),(Pi (e2.2.2.2-1)),(Pd.rep En.SItem (e2.1,e2.2.1,(max (e2.2.2.1-1) 0),e2.2.2.2-1)),(Pd.rep (En.slice En.SItem) [r27,(e2.1,e2.2.1,(max (e2.2.2.1-1) 0),e2.2.2.2-1)]),(Pd.rep (En.slice En.SItem) r31),(Pd.rep (En.slice (En.slice En.SItem)) [r31])] L (by kernel_rfl) J J ?_ ?_
      ·refine zbe.cons (zj (O 8 J) J J) ?_;refine zbe.cons (zj (O 6 J) J J) ?_;refine zbe.cons (zq5 (off:=1) (O 7 J) U42 J (ze (zx (zn _ _)) J) J ty3 J J) ?_;refine zbe.cons (zcr ty3 (O 53 J) J J) ?_;refine zbe.cons (zdl (zel h28) (xs:=[.tmp 54]) (.cons (O 54 J) .nil) J J) ?_;refine zbe.cons (zq5 (off:=0) (O 5 J) U126 J (zx (zn _ _)) J ty3 J J) ?_;refine zbe.cons (zcr ty3 (O 56 J) J J) ?_;refine zbe.cons (zq5 (off:=1) (O 5 J) U126 J (ze (zx (zn _ _)) J) J ty3 J J) ?_;refine zbe.cons (zcr ty3 (O 58 J) J J) ?_;refine zbe.cons (zq5 (off:=2) (O 5 J) U126 J (ze (ze (zx (zn _ _)) J) J) J ty3 J J) ?_;refine zbe.cons (zcr ty3 (O 60 J) J J) ?_;refine zbe.cons (zlw (O 61 J) oI h29 J J) ?_;refine zbe.cons (t_max (O 62 J) oI J J) ?_;refine zbe.cons (zq5 (off:=3) (O 5 J) U126 J (ze (ze (ze (zn _ _) J) J) J) J ty3 J J) ?_;refine zbe.cons (zcr ty3 (O 64 J) J J) ?_;refine zbe.cons (zlw (O 65 J) oI h30 J J) ?_;refine zbe.cons (zbj (x:=(e2.1,e2.2.1,(max (e2.2.2.1-1) 0),e2.2.2.2-1)) (ps:=[(0,.tmp 57),(1,.tmp 59),(2,.tmp 63),(3,.tmp 66)]) zga J zmm (.cons (i:=0) (O 57 J) J (z7 (zo _ _ _)) (.cons (i:=1) (O 59 J) J (zk (z7 (zo _ _ _)) J) (.cons (i:=2) (O 63 J) J (zk (zk (z7 (zo _ _ _)) J) J) (.cons (i:=3) (O 66 J) J (zk (zk (zk (zo _ _ _) J) J) J) .nil)))) J J) ?_;refine zbe.cons (zn1 (xs:=[.tmp 55,.tmp 67]) (.cons (O 55 J) (.cons (O 67 J) .nil)) U76 zi0 J J (by decide) J J) ?_;refine zbe.cons (zdl ((zcj h32).frz) (xs:=[.tmp 52,.tmp 68]) (.cons (O 52 J) (.cons (O 68 J) .nil)) J J) ?_;refine zbe.cons (zn1 (xs:=[.tmp 69]) (.cons (O 69 J) .nil) U61 ty77 J J (by decide) J J) ?_
       exact zbe.nil
      intro a s _ L;replace L:=L.kk (L':=[(8,(Pd.row (En.slice En.SItem) s0.w.heap.size 77 og18 out17)),(51,(Pd.row (En.slice En.SItem) s0.w.heap.size 77 og18 out17)),(70,(Pd.rep (En.slice (En.slice En.SItem)) [r31]))]);refine dp ?_;refine zdx 71 L op op Ud.h Tq.h h33 J J J J ka fun a s og34 hg_ L=>?_;refine sA 1 L fun a s L=>?_;refine en' ?_;exact J26 (out17++[r31]) og34 a s (L.kk) h
     ·refine wp_skip ?_;exact J26 out17 og18 a s (L.kk) h
    refine cn L h (fun h=>?_) fun h=>?_
    ·obtain ⟨r35,h36,h37,h⟩:=h;refine rg (sl 4 (p1 ((zcj h36).frz)) L fun a s L=>?_);have lt_og38_0:=L.blt 5 rfl;have lt_og38_1:=L.blt 7 rfl;refine zdx 47 L op op Ud.h Tq.h h37 J J J J ka fun a s og38 hg_ L=>?_;have d39:=Dis.app hg_ Dis.none lt_og38_0;have d40:=Dis.app hg_ Dis.none lt_og38_1;refine sA 1 L fun a s L=>?_;refine en' ?_;exact J19 (([]:(List (List SItem)))++[r35]) og38 a s (L.kk) (Dis.symm d9) (Dis.symm d39) (Dis.symm d40) h
    ·refine wp_skip ?_;exact J19 ([]:(List (List SItem))) none a s (L.kk) (Dis.symm d9) (Dis.symm Dis.none) (Dis.symm Dis.none) h
   ·refine wp_skip (H10 _ _ ?_);refine wp_seq_k fun K41 H41=>rA 2 L fun a s L=>?_;refine wp_block (rA 2 L fun a s L=>?_);refine cn L h (fun h=>?_) fun h=>?_
    ·obtain ⟨r42,h43,h⟩:=h;refine rs (sl 2 (p1 ((zcj h43).frz)) L fun a s L=>?_);have lt_d46:=L.blt 7 rfl;have lt_d45:=L.blt 5 rfl;refine zf5 (xs:=[.tmp 78]) 79 L (.cons op .nil) Ud.h Tq.h J J (by decide) J J J J fun a s g44 hg_ L=>?_;have d45:=Dis.newg hg_ lt_d45;have d46:=Dis.newg hg_ lt_d46;refine sA 1 L fun a s L=>?_;refine es ?_;subst h;exact wp_ret (zf3 J L J)
    ·refine rA 2 L fun a s L=>?_;refine cn L h (fun h=>?_) fun h=>?_
     ·obtain ⟨r47,h48,h⟩:=h;refine rs (sA 3 L fun a s L=>?_);refine sv (zbj (x:=(3,e2.2.1,0,0)) (ps:=[(0,.const (.int .i64 3)),(1,.tmp 84)]) zga J zmm (.cons (i:=0) op J (z7 (zo _ _ _)) (.cons (i:=1) op J (zk (z7 (zo _ _ _)) J) .nil)) J J) L fun a s L=>?_;refine sl 2 (p1 ((zcj h48).frz)) L fun a s L=>?_;have lt_d51:=L.blt 7 rfl;have lt_d50:=L.blt 5 rfl;refine zf5 (xs:=[.tmp 87]) 88 L (.cons op .nil) Ud.h Tq.h J J (by decide) J J J J fun a s g49 hg_ L=>?_;have d50:=Dis.newg hg_ lt_d50;have d51:=Dis.newg hg_ lt_d51;refine sA 1 L fun a s L=>?_;refine es ?_;subst h;exact wp_ret (zf3 J L J)
     ·refine rA 2 L fun a s L=>?_;refine cn L h (fun h=>?_) fun h=>?_
      ·obtain ⟨r52,h53,r54,h55,r56,h57,h⟩:=h;refine wp_seq (rdx 9 (pp (zel h53) (pp (zel h55) (p1 ((zcj h57).frz)))) L fun a s L=>?_);have lt_d60:=L.blt 7 rfl;have lt_d59:=L.blt 5 rfl;refine zf5 (xs:=[.tmp 99]) 100 L (.cons op .nil) Ud.h Tq.h J J (by decide) J J J J fun a s g58 hg_ L=>?_;have d59:=Dis.newg hg_ lt_d59;have d60:=Dis.newg hg_ lt_d60;refine sA 1 L fun a s L=>?_;refine es ?_;subst h;exact wp_ret (zf3 J L J)
      ·refine rA 2 L fun a s L=>?_;refine cn L h (fun h=>?_) fun h=>?_
       ·obtain ⟨r61,h62,r63,h64,r65,h66,r67,h68,h⟩:=h;refine wp_seq (rdx 12 (pp (zel h62) (pp ((zcj h64).frz) (pp (zel h66) (p1 ((zcj h68).frz))))) L fun a s L=>?_);have lt_d71:=L.blt 7 rfl;have lt_d70:=L.blt 5 rfl;refine zf5 (xs:=[.tmp 108,.tmp 114]) 115 L (.cons op (.cons op .nil)) Ud.h Tq.h J J (by decide) J J J J fun a s g69 hg_ L=>?_;have d70:=Dis.newg hg_ lt_d70;have d71:=Dis.newg hg_ lt_d71;refine sA 1 L fun a s L=>?_;refine es ?_;subst h;exact wp_ret (zf3 J L J)
       ·refine rA 2 L fun a s L=>?_;refine cn L h (fun h=>?_) fun h=>?_
        ·obtain ⟨r72,h73,r74,h75,r76,h77,h⟩:=h;refine wp_seq (rdx 9 (pp ((zcj h73).frz) (pp (zel h75) (p1 ((zcj h77).frz)))) L fun a s L=>?_);have lt_d80:=L.blt 7 rfl;have lt_d79:=L.blt 5 rfl;refine zf5 (xs:=[.tmp 119,.tmp 126]) 127 L (.cons op (.cons op .nil)) Ud.h Tq.h J J (by decide) J J J J fun a s g78 hg_ L=>?_;have d79:=Dis.newg hg_ lt_d79;have d80:=Dis.newg hg_ lt_d80;refine sA 1 L fun a s L=>?_;refine es ?_;subst h;exact wp_ret (zf3 J L J)
        ·refine wp_skip (H41 _ _ ?_);obtain ⟨r81,h82,h⟩:=h;refine rs (sA 7 L fun a s L=>?_);refine sv (zbj (x:=(2,e2.2.1,e6.2.2.2.1,e6.2.2.2.2.1)) (ps:=[(0,.const (.int .i64 2)),(1,.tmp 130),(2,.tmp 132),(3,.tmp 134)]) zga J zmm (.cons (i:=0) op J (z7 (zo _ _ _)) (.cons (i:=1) op J (zk (z7 (zo _ _ _)) J) (.cons (i:=2) op J (zk (zk (z7 (zo _ _ _)) J) J) (.cons (i:=3) op J (zk (zk (zk (zo _ _ _) J) J) J) .nil)))) J J) L fun a s L=>?_;refine sl 2 (p1 ((zcj h82).frz)) L fun a s L=>?_;have lt_d85:=L.blt 7 rfl;have lt_d84:=L.blt 5 rfl;refine zf5 (xs:=[.tmp 137]) 138 L (.cons op .nil) Ud.h Tq.h J J (by decide) J J J J fun a s g83 hg_ L=>?_;have d84:=Dis.newg hg_ lt_d84;have d85:=Dis.newg hg_ lt_d85;refine sA 1 L fun a s L=>?_;refine es ?_;subst h;exact wp_ret (zf3 J L J)
end Go.Proofs.YtjdaaiodniicoaaGreatDoor.V
namespace Go.Proofs.YtjdaaiodniicoaaGreatDoor.V.VD
open Go
abbrev En:=Go.Proofs.YtjdaaiodniicoaaGreatDoor.V.En
abbrev En.int:=Go.Proofs.YtjdaaiodniicoaaGreatDoor.V.En.int
abbrev St:=Go.Proofs.YtjdaaiodniicoaaGreatDoor.V.St
abbrev Gl:=Go.Proofs.YtjdaaiodniicoaaGreatDoor.V.Gl
abbrev Fn:=@Go.Proofs.YtjdaaiodniicoaaGreatDoor.V.Fn true dLe
abbrev Rq:=@Go.Proofs.YtjdaaiodniicoaaGreatDoor.V.Rq true dLe
abbrev Pd.rep {α:Type} (E:V.En α) (x:α):@V.Pd true dLe:=@V.Pd.rep true dLe α E x
end Go.Proofs.YtjdaaiodniicoaaGreatDoor.V.VD
