/-
  The texts that the law's proof needs, part 5.
-/
import Derived.Test.YtahgmdbioafmbaaGreatDoorSetsTellP4

namespace Go.Proofs.YtahgmdbioafmbaaGreatDoor.V
open Go
set_option linter.unusedVariables false
set_option maxRecDepth 100000
theorem zgk {d_:SDesc} {r_:(List (List SItem))} (h:zfq d_ r_):Fn Tryz.prog 17 [(Pd.rep En.SDesc d_)] (Ro (En.slice En.SItem) 47 r_):=by
 unfold zfq at h;refine zbr Tryz.func17 J Tryz.ntmps17 (by rfl) (by simp) fun s0 a L=>?_;refine wp_seq_k fun K1 H1=>rg (sw 1 (zcy (O 0 J) J J) L fun a s L=>?_);refine sw 2 (za (zca (E:=(En.slice En.SItem)) (N:=s0.w.heap.size) (te:=47)) J J) L fun a s L=>en' (H1 _ _ ?_);refine wp_seq_k fun K2 H2=>?_;obtain ⟨r3,h4,h⟩:=h;refine rg (sw 3 (zl zey (O 1 J) J J) L fun a s L=>?_);refine sw 4 (zt ((zqk h4).frz) (xs:=[.tmp 3]) (.cons (O 3 J) .nil) J J) L fun a s L=>zer (xs:=[.tmp 4]) 5 L (.cons (O 4 J) .nil) U25 zdj J J (by decide) J J J J fun a s g5 hg_ L=>?_;refine sw 2 (za (O 5 J) J J) L fun a s L=>en' (H2 _ _ ?_);subst h;exact wp_ret (zgd J L J)
theorem zjn {d_:SDesc} {l_:(List (List SItem))} {cv_:Int} {r_:(List (List SItem))} (h:zcd d_ l_ cv_ r_):Fn Tryz.prog 19 [(Pd.rep En.SDesc d_),(Pd.rep (En.slice (En.slice En.SItem)) l_),(Pd.rep (En.int .u8) cv_)] (Ro (En.slice En.SItem) 47 r_):=by
 unfold zcd at h;refine zbr Tryz.func19 J Tryz.ntmps19 (by rfl) (by simp) fun s0 a L=>?_;refine wp_seq_k fun K1 H1=>rg (sw 3 (zcy (O 0 J) J J) L fun a s L=>?_);refine sw 6 (za (zca (E:=(En.slice En.SItem)) (N:=s0.w.heap.size) (te:=47)) J J) L fun a s L=>en' (H1 _ _ ?_);refine wp_seq_k fun K2 H2=>rg (zko 15 En.str kvStr (En.slice En.SItem) L J J J J fun a s g3 hg_ L=>?_);refine sw 7 (za (O 15 J) J J) L fun a s L=>en' (H2 _ _ ?_);refine wp_seq_k fun K4 H4=>wp_seq_k fun K5 H5=>rg (sw 16 (zb (O 1 J) J J) L fun a s L=>?_);refine sw 17 (zb2 (O 16 J) U25 J J) L fun a s L=>sw 18 (zb oI J J) L fun a s L=>en' (H5 _ _ ?_);refine wp_block ?_;have J8:∀(found6:(List (Str × (List SItem)))) (og7:Option Nat) (a:Act) (s:St),Has N0 52 s0 a s [(7,(Pd.map En.str kvStr (En.slice En.SItem) s0.w.heap.size og7 found6))]→((zcd.j1 r_) found6)→K4 a s.w:=by
  intro found6 og7 a s L h;unfold zcd.j1 at h;show K4 a s.w;refine H4 _ _ (wp_seq_k fun K9 H9=>?_);refine rg (sw 12 (za (zca (E:=(En.slice En.SItem)) (N:=s0.w.heap.size) (te:=47)) J J) L fun a s L=>?_);refine en' (H9 _ _ ?_);refine wp_seq_k fun K10 H10=>wp_seq_k fun K11 H11=>?_;obtain ⟨q1,q2,q3,q4⟩:=h;refine rg ?_;obtain ⟨s2,hw,L⟩:=L.freezem (L':=[(12,Pd.row (En.slice En.SItem) s0.w.heap.size 47 none [])]) 7 rfl (.cons (t:=12) rfl zhb .nil);rw [← hw];clear hw;generalize s2=s at *;refine sw 39 (zb (O 7 J) J J) L fun a s L=>zo8 40 L (O 39 J) U78 J J J J fun a s r hr L=>?_;refine en' ?_;show K11 a s.w;refine H11 _ _ ?_;refine wp_block ?_;have JJ:∀(a:Act) (s:St) (og:Option Nat) (out:List (List SItem)),Has N0 52 s0 a s [(12,Pd.row (En.slice En.SItem) s0.w.heap.size 47 og out)]→out.Perm (found6.map (·.2))→K10 a s.w:=by
   intro a s og out L hp;have hsrt:zfp out r_:=⟨fun b hb=>q1 b (hp.mem_iff.1 hb),by rw [hp.length_eq];exact q2,q3.trans hp.symm,q4⟩;refine H10 _ _ (wp_seq_k fun K7 H7=>?_);refine rg (sw 49 (zb (O 12 J) J J) L fun a s L=>?_);refine zmj (L':=[(12,Pd.row (En.slice En.SItem) s0.w.heap.size 47 og r_)]) 50 (fun v0=>zj4 v0 hsrt) L (O 49 J) (zs:=[.func 58]) (.cons o_isf .nil) J J J J (.turn (t:=12) J .nil) fun a s L=>?_;refine en' ?_;show K7 a s.w;refine H7 _ _ ?_;refine wp_seq_k fun K8 H8=>rg (sw 51 (zb (O 12 J) J J) L fun a s L=>?_);refine sw 6 (za (O 51 J) J J) L fun a s L=>en' ?_;show K8 a s.w;refine H8 _ _ ?_;exact wp_ret (zgd J L J)
  have hmlen:found6.length≤2147483648:=by simpa using q2
  refine lpg (fun k a s=>∃(rem:List (Str × List SItem)) (cur:Option (Str × List SItem)) (og:Option Nat) (out:List (List SItem)),rem.length+1=k∧Has N0 52 s0 a s [(12,Pd.row (En.slice En.SItem) s0.w.heap.size 47 og out),(40,Pd.iter En.str kvStr (En.slice En.SItem) s0.w.heap.size r rem cur)]∧(∀b,og=some b→¬ some r=some b)∧(out++rem.map (·.2)).Perm (found6.map (·.2)))
   (found6.length+1) ⟨found6,none,none,[],rfl,L.keep (.cons (t:=12) rfl (fun _ _ h_=>h_) (.cons (t:=40) rfl (fun _ _ h_=>h_) .nil)),(fun b hb=>by cases hb),by simp⟩ ?_
  rintro k a s ⟨rem,cur,og,out,hrk,L,hdis,hperm⟩ KL hKL;refine wp_seq_k fun K5 H5=>rg (st_next (L':=[(12,Pd.row (En.slice En.SItem) s0.w.heap.size 47 og out)]) 41 L (x:=40) J J J J J (by decide) (.cons (t:=12) J hdis .nil) (fun a hrem L=>?_) (fun a s p rem' hp L=>?_))
  ·subst hrem;refine sw 42 (t_nx (O 41 J) J J) L fun a s L=>en' ?_;show K5 a s.w;refine H5 _ _ ?_;refine wp_seq_k fun K6 H6=>cnd L J (fun hb3_=>by cases hb3_) (fun _=>?_);refine wp_exit ?_;exact JJ a s og out (L.keep (.cons (t:=12) J (fun _ _ h_=>h_) .nil)) (by simpa using hperm)
  refine sw 42 (t_nx (O 41 J) J J) L fun a s L=>en' ?_;show K5 a s.w;refine H5 _ _ ?_;refine wp_seq_k fun K6 H6=>cnd L J (fun _=>?_) (fun hb3_=>by cases hb3_);refine wp_skip ?_;show K6 a s.w;refine H6 _ _ ?_;refine wp_block (wp_seq_k fun K9 H9=>?_);refine rg (sw 43 (t_entry (O 40 J) (zfn U9) J J) L fun a s L=>?_);refine sw 44 (zhv (O 43 J) J J) L fun a s L=>sw 14 (za (O 44 J) J J) L fun a s L=>en' ?_;show K9 a s.w;refine H9 _ _ ?_;refine rg ?_;have hpl:=hp.length_eq;simp only [List.length_cons] at hpl;have hol:out.length+(rem.length:Nat)=found6.length:=by
   have:=hperm.length_eq;simpa using this
  refine sw 45 (zb (O 12 J) J J) L fun a s L=>sw 46 (zb (O 14 J) J J) L fun a s L=>sw 47 (zcz (xs:=[.tmp 46]) (.cons (O 46 J) .nil) U25 zdj J J (by decide) J J) L fun a s L=>?_;have lr:=L.ilt 40 rfl r rfl;refine zck (L':=[(40,Pd.iter En.str kvStr (En.slice En.SItem) s0.w.heap.size r rem' (some p))]) 48 L (O 45 J) (O 47 J) U25 zdj (by simp;omega) J J J J (.cons (t:=40) J (fun b hb e=>hdis b e hb) .nil) fun a s og' hg' L=>?_;refine sw 12 (za (O 48 J) J J) L fun a s L=>en' (hKL (k-1) a s (by omega) ⟨rem',some p,og',out++[p.2],by omega,L.keep (.cons (t:=12) J (fun _ _ h_=>h_) (.cons (t:=40) J (fun _ _ h_=>h_) .nil)),fun b hb e=>?_, ?_⟩)
  ·rcases hg' b hb with h3 | h3
   ·exact hdis b h3 e
   ·cases e;omega
  ·refine List.Perm.trans ?_ hperm;have h5:=hp.map (·.2);rw [List.map_cons] at h5;rw [List.append_assoc,List.singleton_append];exact (h5.symm.append_left out)
 obtain ⟨k15,h⟩:=h;refine lpg (fun k16 a s=>∃(found12:(List (Str × (List SItem)))) (v14:Int) (og13:Option Nat),Has N0 52 s0 a s [(2,(Pd.rep (En.int .u8) cv_)),(3,(Pd.ptr En.SDesc d_)),(7,(Pd.map En.str kvStr (En.slice En.SItem) s0.w.heap.size og13 found12)),(16,(Pd.rep (En.slice (En.slice En.SItem)) l_)),(17,(Pi (l_.length:Int))),(18,(Pi v14))]∧zcd.l1 d_ l_ cv_ (zcd.j1 r_) k16 found12 v14) k15 ⟨([]:(List (Str × (List SItem)))),0,(some g3),L.keep (.k 2 (.k 3 (.cons (t:=7) J (fun _ _ h_=>h_) (.k 16 (.k 17 (.k 18 .nil)))))),h⟩ ?_;rintro k16 a s ⟨found12,v14,og13,L,h⟩ KL17 hKL17;cases k16 with
 | zero=>exact h.elim
 | succ k16=>
 unfold zcd.l1 at h;refine wp_seq_k fun K18 H18=>rg (sw 19 (zbq (O 18 J) (O 17 J) J J) L fun a s L=>?_);refine en' (H18 _ _ ?_);refine wp_seq_k fun K19 H19=>cnd L J (fun hb_=>?_) (fun hb_=>?_)
 ·replace h:=h.1 hb_;refine wp_skip ?_;show K19 a s.w;refine H19 _ _ (wp_seq_k fun K20 H20=>?_);refine wp_block (wp_seq_k fun K21 H21=>?_);obtain ⟨e22,h23,h⟩:=h;refine rg (sw 20 (zbv (O 16 J) (O 18 J) h23 U25 zdj J J) L fun a s L=>?_);refine sw 21 (zl zdj (O 20 J) J J) L fun a s L=>sw 9 (za (O 21 J) J J) L fun a s L=>en' (H21 _ _ ?_);refine wp_seq_k fun K24 H24=>?_;obtain ⟨r25,h26,h⟩:=h;refine rg (sw 22 (zl zey (O 3 J) J J) L fun a s L=>?_);refine sw 23 (zb (O 9 J) J J) L fun a s L=>sw 24 (zb (O 2 J) J J) L fun a s L=>sw 25 (zt ((next_On_ok h26).frz) (xs:=[.tmp 22,.tmp 23,.tmp 24]) (.cons (O 22 J) (.cons (O 23 J) (.cons (O 24 J) .nil))) J J) L fun a s L=>sw 26 (zb2 (O 25 J) U79 J J) L fun a s L=>sw 27 (zb oI J J) L fun a s L=>en' (H24 _ _ ?_);refine wp_block ?_;have J29:∀(found27:(List (Str × (List SItem)))) (og28:Option Nat) (a:Act) (s:St),Has N0 52 s0 a s [(2,(Pd.rep (En.int .u8) cv_)),(3,(Pd.ptr En.SDesc d_)),(7,(Pd.map En.str kvStr (En.slice En.SItem) s0.w.heap.size og28 found27)),(16,(Pd.rep (En.slice (En.slice En.SItem)) l_)),(17,(Pi (l_.length:Int))),(18,(Pi v14))]→((zcd.j2 (zcd.l1 d_ l_ cv_ (zcd.j1 r_) k16) v14) found27)→K20 a s.w:=by
   intro found27 og28 a s L h;unfold zcd.j2 at h;show K20 a s.w;refine H20 _ _ ?_;obtain ⟨h30,h⟩:=h;refine rg (sw 38 (zbe (O 18 J) oI h30 J J) L fun a s L=>?_);refine sw 18 (zb (O 38 J) J J) L fun a s L=>en' ?_;exact hKL17 k16 a s (Nat.lt_succ_self _) ⟨found27,(v14+1),og28,L.keep (.k 2 (.k 3 (.cons (t:=7) J (fun _ _ h_=>h_) (.k 16 (.k 17 (.k 18 .nil)))))),h⟩
  obtain ⟨k34,h⟩:=h;refine lpg (fun k35 a s=>∃(found31:(List (Str × (List SItem)))) (v33:Int) (og32:Option Nat),Has N0 52 s0 a s [(2,(Pd.rep (En.int .u8) cv_)),(3,(Pd.ptr En.SDesc d_)),(7,(Pd.map En.str kvStr (En.slice En.SItem) s0.w.heap.size og32 found31)),(16,(Pd.rep (En.slice (En.slice En.SItem)) l_)),(17,(Pi (l_.length:Int))),(18,(Pi v14)),(25,(Pd.rep (En.slice En.SBranch) r25)),(26,(Pi (r25.length:Int))),(27,(Pi v33))]∧zcd.l2 r25 (zcd.j2 (zcd.l1 d_ l_ cv_ (zcd.j1 r_) k16) v14) k35 found31 v33) k34 ⟨found12,0,og13,L.keep (.k 2 (.k 3 (.cons (t:=7) J (fun _ _ h_=>h_) (.k 16 (.k 17 (.k 18 (.k 25 (.k 26 (.k 27 .nil))))))))),h⟩ ?_;rintro k35 a s ⟨found31,v33,og32,L,h⟩ KL36 hKL36;cases k35 with
  | zero=>exact h.elim
  | succ k35=>
  unfold zcd.l2 at h;refine wp_seq_k fun K37 H37=>rg (sw 28 (zbq (O 27 J) (O 26 J) J J) L fun a s L=>?_);refine en' (H37 _ _ ?_);refine wp_seq_k fun K38 H38=>cnd L J (fun hb_=>?_) (fun hb_=>?_)
  ·replace h:=h.1 hb_;refine wp_skip ?_;show K38 a s.w;refine H38 _ _ (wp_seq_k fun K39 H39=>?_);refine wp_block (wp_seq_k fun K40 H40=>?_);obtain ⟨e41,h42,h⟩:=h;refine rg (sw 29 (zbv (O 25 J) (O 27 J) h42 U79 zhh J J) L fun a s L=>?_);refine sw 30 (zl zhh (O 29 J) J J) L fun a s L=>?_;have lt_d44:=L.mlt 7 rfl;refine zbg En.SBranch (z:=([],0)) 11 L zli J J J J fun a s g43 hg_ L=>?_;have d44:Dis (some g43) og32:=Dis.newg hg_ lt_d44;refine zb9 (L':=[(2,(Pd.rep (En.int .u8) cv_)),(3,(Pd.ptr En.SDesc d_)),(7,(Pd.map En.str kvStr (En.slice En.SItem) s0.w.heap.size og32 found31)),(16,(Pd.rep (En.slice (En.slice En.SItem)) l_)),(17,(Pi (l_.length:Int))),(18,(Pi v14)),(25,(Pd.rep (En.slice En.SBranch) r25)),(26,(Pi (r25.length:Int))),(27,(Pi v33))]) 11 L J (O 30 J) zhh J J J (.k 2 (.k 3 (.cons (t:=7) J (Dis.ow (Dis.symm d44)) (.k 16 (.k 17 (.k 18 (.k 25 (.k 26 (.k 27 .nil))))))))) fun s L=>?_;refine en' (H40 _ _ ?_);obtain ⟨r45,h46,h⟩:=h;refine rda zbp 6 [(Pd.map En.str kvStr (En.slice En.SItem) s0.w.heap.size og32 found31),(Pd.optr (En.slice En.SItem) s0.w.heap.size (some g43) (0) e41.1),(Pd.rep (En.slice En.SItem) e41.1),(Pd.rep En.str r45),(Pd.optr (En.slice En.SItem) s0.w.heap.size (some g43) (0) e41.1),(Pd.rep (En.slice En.SItem) e41.1)] L (by kernel_rfl) J J ?_ ?_
   ·refine zm.cons (zb (O 7 J) J J) ?_;refine zm.cons (zbf (off:=0) (O 11 J) U82 J (zk (zh _ _)) J zdj J J) (zm.cons (zo zdj (O 32 J) J J) ?_);refine zm.cons (zt (zii h46) (xs:=[.tmp 33]) (.cons (O 33 J) .nil) J J) (zm.cons (zbf (off:=0) (O 11 J) U82 J (zk (zh _ _)) J zdj J J) ?_);refine zm.cons (zo zdj (O 35 J) J J) ?_;exact zm.nil
   intro a s _ L;refine zjl (L':=[(2,(Pd.rep (En.int .u8) cv_)),(3,(Pd.ptr En.SDesc d_)),(7,(Pd.map En.str kvStr (En.slice En.SItem) s0.w.heap.size og32 (zgi found31 r45 e41.1))),(16,(Pd.rep (En.slice (En.slice En.SItem)) l_)),(17,(Pi (l_.length:Int))),(18,(Pi v14)),(25,(Pd.rep (En.slice En.SBranch) r25)),(26,(Pi (r25.length:Int))),(27,(Pi v33))]) L (O 31 J) (O 34 J) (O 36 J) U78 (zfn U9) (.inl J) J J (.k 2 (.k 3 (.turn (t:=7) J (.k 16 (.k 17 (.k 18 (.k 25 (.k 26 (.k 27 .nil))))))))) fun s L=>?_;refine en' (H39 _ _ ?_);obtain ⟨h47,h⟩:=h;refine rg (sw 37 (zbe (O 27 J) oI h47 J J) L fun a s L=>?_);refine sw 27 (zb (O 37 J) J J) L fun a s L=>en' ?_;exact hKL36 k35 a s (Nat.lt_succ_self _) ⟨(zgi found31 r45 e41.1),(v33+1),og32,L.keep (.k 2 (.k 3 (.cons (t:=7) J (fun _ _ h_=>h_) (.k 16 (.k 17 (.k 18 (.k 25 (.k 26 (.k 27 .nil))))))))),h⟩
  ·replace h:=h.2 hb_;refine wp_exit ?_;exact J29 found31 og32 a s (L.keep (.k 2 (.k 3 (.cons (t:=7) J (fun _ _ h_=>h_) (.k 16 (.k 17 (.k 18 .nil))))))) h
 ·replace h:=h.2 hb_;refine wp_exit ?_;exact J8 found12 og13 a s (L.keep (.cons (t:=7) J (fun _ _ h_=>h_) .nil)) h
theorem zgn {a_:(List (List SItem))} {b_:(List (List SItem))} {r_:Bool} (h:zco a_ b_ r_):Fn Tryz.prog 16 [(Pd.rep (En.slice (En.slice En.SItem)) a_),(Pd.rep (En.slice (En.slice En.SItem)) b_)] (Rq (Pd.rep En.bool r_)):=by
 unfold zco at h;refine zbr Tryz.func16 J Tryz.ntmps16 (by rfl) (by simp) fun s0 a L=>?_;refine wp_seq_k fun K1 H1=>rg (sw 4 (za o_b J J) L fun a s L=>?_);refine en' (H1 _ _ ?_);refine wp_seq_k fun K2 H2=>wp_seq_k fun K3 H3=>rg (sw 6 (zb (O 0 J) J J) L fun a s L=>?_);refine sw 7 (zb2 (O 6 J) U25 J J) L fun a s L=>sw 8 (zb (O 1 J) J J) L fun a s L=>sw 9 (zb2 (O 8 J) U25 J J) L fun a s L=>sw 10 (zkd (O 7 J) (O 9 J) J J) L fun a s L=>en' (H3 _ _ ?_);refine cnd L J (fun hb_=>?_) (fun hb_=>?_)
 ·replace h:=h.1 hb_;refine wp_seq_k fun K4 H4=>rg (sw 4 (za o_b J J) L fun a s L=>?_);refine en' (H4 _ _ ?_);subst h;exact wp_ret (zdr J L J)
 ·replace h:=h.2 hb_;refine wp_skip ?_;show K2 a s.w;refine H2 _ _ (wp_seq_k fun K5 H5=>?_);refine wp_seq_k fun K6 H6=>rg (sw 5 (za oI J J) L fun a s L=>?_);refine en' (H6 _ _ ?_);refine wp_block ?_;have J7:∀(a:Act) (s:St),Has N0 27 s0 a s []→((zco.j1 r_))→K5 a s.w:=by
   intro a s L h;unfold zco.j1 at h;show K5 a s.w;refine H5 _ _ (wp_seq_k fun K8 H8=>?_);refine rg (sw 4 (za o_b J J) L fun a s L=>?_);refine en' (H8 _ _ ?_);subst h;exact wp_ret (zdr J L J)
  obtain ⟨k10,h⟩:=h;refine lpg (fun k11 a s=>∃(i9:Int),Has N0 27 s0 a s [(0,(Pd.rep (En.slice (En.slice En.SItem)) a_)),(1,(Pd.rep (En.slice (En.slice En.SItem)) b_)),(5,(Pi i9))]∧zco.l1 a_ b_ r_ (zco.j1 r_) k11 i9) k10 ⟨0,L.keep (.k 0 (.k 1 (.k 5 .nil))),h⟩ ?_;rintro k11 a s ⟨i9,L,h⟩ KL12 hKL12;cases k11 with
  | zero=>exact h.elim
  | succ k11=>
  unfold zco.l1 at h;refine wp_seq_k fun K13 H13=>wp_seq_k fun K14 H14=>rg (sw 11 (zb (O 5 J) J J) L fun a s L=>?_);refine sw 12 (zb (O 0 J) J J) L fun a s L=>sw 13 (zb2 (O 12 J) U25 J J) L fun a s L=>sw 14 (zbq (O 11 J) (O 13 J) J J) L fun a s L=>en' (H14 _ _ ?_);refine cnd L J (fun hb_=>?_) (fun hb_=>?_)
  ·replace h:=h.1 hb_;refine wp_skip ?_;show K13 a s.w;refine H13 _ _ (wp_seq_k fun K15 H15=>?_);refine wp_block (wp_seq_k fun K16 H16=>?_);obtain ⟨e17,h18,e19,h20,r21,h22,h⟩:=h;refine rda zbp 10 [(Pd.rep (En.slice (En.slice En.SItem)) a_),(Pi i9),(Pd.ptr (En.slice En.SItem) e17),(Pd.rep (En.slice En.SItem) e17),(Pd.rep (En.slice (En.slice En.SItem)) b_),(Pi i9),(Pd.ptr (En.slice En.SItem) e19),(Pd.rep (En.slice En.SItem) e19),(Pd.rep En.bool r21),(Pd.rep En.bool (!r21))] L (by kernel_rfl) J J ?_ ?_
   ·refine zm.cons (zb (O 0 J) J J) ?_;refine zm.cons (zb (O 5 J) J J) (zm.cons (zbv (O 17 J) (O 18 J) h18 U25 zdj J J) ?_);refine zm.cons (zl zdj (O 19 J) J J) (zm.cons (zb (O 1 J) J J) ?_);refine zm.cons (zb (O 5 J) J J) (zm.cons (zbv (O 21 J) (O 22 J) h20 U25 zdj J J) ?_);refine zm.cons (zl zdj (O 23 J) J J) (zm.cons (zt (zpr h22) (xs:=[.tmp 20,.tmp 24]) (.cons (O 20 J) (.cons (O 24 J) .nil)) J J) ?_);refine zm.cons (zf2 (O 25 J) J J) ?_;exact zm.nil
   intro a s _ L;refine en' (H16 _ _ ?_);refine cnd L J (fun hb_=>?_) (fun hb_=>?_)
   ·replace h:=h.1 hb_;refine wp_seq_k fun K23 H23=>rg (sw 4 (za o_b J J) L fun a s L=>?_);refine en' (H23 _ _ ?_);subst h;exact wp_ret (zdr J L J)
   ·replace h:=h.2 hb_;refine wp_skip ?_;show K15 a s.w;refine H15 _ _ ?_;obtain ⟨h24,h⟩:=h;refine rg (sw 15 (zb (O 5 J) J J) L fun a s L=>?_);refine sw 16 (zbe (O 15 J) oI h24 J J) L fun a s L=>sw 5 (za (O 16 J) J J) L fun a s L=>en' ?_;exact hKL12 k11 a s (Nat.lt_succ_self _) ⟨(i9+1),L.keep (.k 0 (.k 1 (.k 5 .nil))),h⟩
  ·replace h:=h.2 hb_;refine wp_exit ?_;exact J7 a s (L.keep .nil) h
theorem zn5 {s_:(List SItem)} {cap0_:SDesc} {r_:Bool} (h:zib s_ cap0_ r_):Fn Tryz.prog 62 [(Pd.rep (En.slice En.SItem) s_),(Pd.ptr En.SDesc cap0_)] (Rq (Pd.rep En.bool r_)):=by
 unfold zib at h;refine zbr Tryz.func62 J Tryz.ntmps62 (by rfl) (by simp) fun s0 a L=>?_;refine wp_seq_k fun K1 H1=>rg (sw 3 (za o_b J J) L fun a s L=>?_);refine en' (H1 _ _ ?_);refine wp_seq_k fun K2 H2=>?_;obtain ⟨r3,h4,h⟩:=h;refine rg (sw 4 (zl zey (O 1 J) J J) L fun a s L=>?_);refine sw 5 (zb (O 0 J) J J) L fun a s L=>sw 6 (zt (next_Ends_ok h4) (xs:=[.tmp 4,.tmp 5]) (.cons (O 4 J) (.cons (O 5 J) .nil)) J J) L fun a s L=>sw 7 (zhu (O 6 J) oI J J) L fun a s L=>sw 3 (za (O 7 J) J J) L fun a s L=>en' (H2 _ _ ?_);subst h;exact wp_ret (zdr J L J)
theorem zf3 {d_:SDesc} {l_:(List (List SItem))} {r_:Bool} (h:zel d_ l_ r_):Fn Tryz.prog 21 [(Pd.rep En.SDesc d_),(Pd.rep (En.slice (En.slice En.SItem)) l_)] (Rq (Pd.rep En.bool r_)):=by
 unfold zel at h;refine zbr Tryz.func21 J Tryz.ntmps21 (by rfl) (by simp) fun s0 a L=>?_;refine wp_seq_k fun K1 H1=>rg (sw 2 (zcy (O 0 J) J J) L fun a s L=>?_);refine sw 4 (za o_b J J) L fun a s L=>en' (H1 _ _ ?_);refine wp_seq_k fun K2 H2=>?_;obtain ⟨r3,h4,h⟩:=h;refine rg (sw 5 (zb (O 1 J) J J) L fun a s L=>?_);refine sw 6 (t_q (Pd.rep EnF88 (fun q_=>zib q_.1 d_ q_.2)) (t_mkfun (cs:=[.tmp 2]) (.cons (O 2 J) .nil) (zgh Tryz.func62 J (by rfl)) (enc_cons enc_ptr enc_nil) (fun q_ h_=>zn5 h_) J J)) L fun a s L=>sw 7 (zt (zek h4) (xs:=[.tmp 5,.tmp 6]) (.cons (O 5 J) (.cons (O 6 J) .nil)) J J) L fun a s L=>sw 4 (za (O 7 J) J J) L fun a s L=>en' (H2 _ _ ?_);subst h;exact wp_ret (zdr J L J)
theorem zkr {d_:SDesc} {w_:(List Int)} {r_:(List (List SItem))} (h:zcv d_ w_ r_):Fn Tryz.prog 31 [(Pd.rep En.SDesc d_),(Pd.rep (En.slice (En.int .u8)) w_)] (Ro (En.slice En.SItem) 47 r_):=by
 unfold zcv at h;refine zbr Tryz.func31 J Tryz.ntmps31 (by rfl) (by simp) fun s0 a L=>?_;refine wp_seq_k fun K1 H1=>rg (sw 2 (zcy (O 0 J) J J) L fun a s L=>?_);refine sw 4 (za (zca (E:=(En.slice En.SItem)) (N:=s0.w.heap.size) (te:=47)) J J) L fun a s L=>en' (H1 _ _ ?_);refine wp_seq_k fun K2 H2=>?_;obtain ⟨r3,h4,h⟩:=h;refine rg (sw 8 (zl zey (O 2 J) J J) L fun a s L=>?_);refine zes 9 L (zgk h4) (xs:=[.tmp 8]) (.cons (O 8 J) .nil) J J J J fun a s og5 hg_ L=>?_;refine sw 5 (za (O 9 J) J J) L fun a s L=>en' (H2 _ _ ?_);refine wp_seq_k fun K6 H6=>wp_seq_k fun K7 H7=>rg (sw 10 (zb (O 1 J) J J) L fun a s L=>?_);refine sw 11 (zb2 (O 10 J) U26 J J) L fun a s L=>sw 12 (zb oI J J) L fun a s L=>en' (H7 _ _ ?_);refine wp_block ?_;have J10:∀(l8:(List (List SItem))) (og9:Option Nat) (a:Act) (s:St),Has N0 22 s0 a s [(5,(Pd.row (En.slice En.SItem) s0.w.heap.size 47 og9 l8))]→((zcv.j1 r_) l8)→K6 a s.w:=by
  intro l8 og9 a s L h;unfold zcv.j1 at h;show K6 a s.w;refine H6 _ _ (wp_seq_k fun K11 H11=>?_);refine rg (sw 21 (zb (O 5 J) J J) L fun a s L=>?_);refine sw 4 (za (O 21 J) J J) L fun a s L=>en' (H11 _ _ ?_);subst h;exact wp_ret (zgd J L J)
 obtain ⟨k15,h⟩:=h;refine lpg (fun k16 a s=>∃(l12:(List (List SItem))) (v14:Int) (og13:Option Nat),Has N0 22 s0 a s [(2,(Pd.ptr En.SDesc d_)),(5,(Pd.row (En.slice En.SItem) s0.w.heap.size 47 og13 l12)),(10,(Pd.rep (En.slice (En.int .u8)) w_)),(11,(Pi (w_.length:Int))),(12,(Pi v14))]∧zcv.l1 d_ w_ (zcv.j1 r_) k16 l12 v14) k15 ⟨r3,0,og5,L.keep (.k 2 (.cons (t:=5) J (fun _ _ h_=>h_) (.k 10 (.k 11 (.k 12 .nil))))),h⟩ ?_;rintro k16 a s ⟨l12,v14,og13,L,h⟩ KL17 hKL17;cases k16 with
 | zero=>exact h.elim
 | succ k16=>
 unfold zcv.l1 at h;refine wp_seq_k fun K18 H18=>rg (sw 13 (zbq (O 12 J) (O 11 J) J J) L fun a s L=>?_);refine en' (H18 _ _ ?_);refine wp_seq_k fun K19 H19=>cnd L J (fun hb_=>?_) (fun hb_=>?_)
 ·replace h:=h.1 hb_;refine wp_skip ?_;show K19 a s.w;refine H19 _ _ (wp_seq_k fun K20 H20=>?_);refine wp_block (wp_seq_k fun K21 H21=>?_);obtain ⟨e22,h23,h⟩:=h;refine rg (sw 14 (zbv (O 10 J) (O 12 J) h23 U26 ty5 J J) L fun a s L=>?_);refine sw 15 (zl ty5 (O 14 J) J J) L fun a s L=>sw 7 (za (O 15 J) J J) L fun a s L=>en' (H21 _ _ ?_);obtain ⟨s25,h24,L⟩:=L.freeze (L':=[(2,(Pd.ptr En.SDesc d_)),(7,(Pd.rep (En.int .u8) e22)),(10,(Pd.rep (En.slice (En.int .u8)) w_)),(11,(Pi (w_.length:Int))),(12,(Pi v14))]) 5 rfl (.cons (t:=2) rfl nE (.cons (t:=7) rfl nE (.cons (t:=10) rfl nE (.cons (t:=11) rfl nE (.cons (t:=12) rfl nE .nil)))));rw [← h24];clear h24;generalize s25=s at *;obtain ⟨r26,h27,h⟩:=h;refine rg (sw 16 (zl zey (O 2 J) J J) L fun a s L=>?_);refine sw 17 (zb (O 5 J) J J) L fun a s L=>sw 18 (zb (O 7 J) J J) L fun a s L=>zes 19 L (zjn h27) (xs:=[.tmp 16,.tmp 17,.tmp 18]) (.cons (O 16 J) (.cons (O 17 J) (.cons (O 18 J) .nil))) J J J J fun a s og28 hg_ L=>?_;refine sw 5 (za (O 19 J) J J) L fun a s L=>en' (H20 _ _ ?_);obtain ⟨h29,h⟩:=h;refine rg (sw 20 (zbe (O 12 J) oI h29 J J) L fun a s L=>?_);refine sw 12 (zb (O 20 J) J J) L fun a s L=>en' ?_;exact hKL17 k16 a s (Nat.lt_succ_self _) ⟨r26,(v14+1),og28,L.keep (.k 2 (.cons (t:=5) J (fun _ _ h_=>h_) (.k 10 (.k 11 (.k 12 .nil))))),h⟩
 ·replace h:=h.2 hb_;refine wp_exit ?_;exact J10 l12 og13 a s (L.keep (.cons (t:=5) J (fun _ _ h_=>h_) .nil)) h
theorem zi0 {d_:SDesc} {l_:(List (List SItem))} {r_:(List Cl)} (h:zb6 d_ l_ r_):Fn Tryz.prog 27 [(Pd.rep En.SDesc d_),(Pd.rep (En.slice (En.slice En.SItem)) l_)] (Ro En.cls 51 r_):=by
 unfold zb6 at h;refine zbr Tryz.func27 J Tryz.ntmps27 (by rfl) (by simp) fun s0 a L=>?_;refine wp_seq_k fun K1 H1=>rg (sw 2 (zcy (O 0 J) J J) L fun a s L=>?_);refine sw 4 (za (zca (E:=En.cls) (N:=s0.w.heap.size) (te:=51)) J J) L fun a s L=>en' (H1 _ _ ?_);refine wp_seq_k fun K2 H2=>rg (sw 5 (za (zca (E:=En.cls) (N:=s0.w.heap.size) (te:=51)) J J) L fun a s L=>?_);refine en' (H2 _ _ ?_);refine wp_seq_k fun K3 H3=>wp_seq_k fun K4 H4=>rg (sw 8 (zb (O 1 J) J J) L fun a s L=>?_);refine sw 9 (zb2 (O 8 J) U25 J J) L fun a s L=>sw 10 (zb oI J J) L fun a s L=>en' (H4 _ _ ?_);refine wp_block ?_;have J7:∀(out5:(List Cl)) (og6:Option Nat) (a:Act) (s:St),Has N0 21 s0 a s [(5,(Pd.row En.cls s0.w.heap.size 51 og6 out5))]→((zb6.j1 r_) out5)→K3 a s.w:=by
  intro out5 og6 a s L h;unfold zb6.j1 at h;show K3 a s.w;refine H3 _ _ (wp_seq_k fun K8 H8=>?_);refine rg (sw 20 (zb (O 5 J) J J) L fun a s L=>?_);refine sw 4 (za (O 20 J) J J) L fun a s L=>en' (H8 _ _ ?_);subst h;exact wp_ret (zgd J L J)
 obtain ⟨k12,h⟩:=h;refine lpg (fun k13 a s=>∃(out9:(List Cl)) (v11:Int) (og10:Option Nat),Has N0 21 s0 a s [(2,(Pd.ptr En.SDesc d_)),(5,(Pd.row En.cls s0.w.heap.size 51 og10 out9)),(8,(Pd.rep (En.slice (En.slice En.SItem)) l_)),(9,(Pi (l_.length:Int))),(10,(Pi v11))]∧zb6.l1 d_ l_ (zb6.j1 r_) k13 out9 v11) k12 ⟨([]:(List Cl)),0,none,L.keep (.k 2 (.cons (t:=5) J (fun _ _ h_=>h_) (.k 8 (.k 9 (.k 10 .nil))))),h⟩ ?_;rintro k13 a s ⟨out9,v11,og10,L,h⟩ KL14 hKL14;cases k13 with
 | zero=>exact h.elim
 | succ k13=>
 unfold zb6.l1 at h;refine wp_seq_k fun K15 H15=>rg (sw 11 (zbq (O 10 J) (O 9 J) J J) L fun a s L=>?_);refine en' (H15 _ _ ?_);refine wp_seq_k fun K16 H16=>cnd L J (fun hb_=>?_) (fun hb_=>?_)
 ·replace h:=h.1 hb_;refine wp_skip ?_;show K16 a s.w;refine H16 _ _ (wp_seq_k fun K17 H17=>?_);refine wp_block (wp_seq_k fun K18 H18=>?_);obtain ⟨e19,h20,h⟩:=h;refine rg (sw 12 (zbv (O 8 J) (O 10 J) h20 U25 zdj J J) L fun a s L=>?_);refine sw 13 (zl zdj (O 12 J) J J) L fun a s L=>sw 7 (za (O 13 J) J J) L fun a s L=>en' (H18 _ _ ?_);obtain ⟨r21,h22,h23,h⟩:=h;refine rg (sw 14 (zb (O 5 J) J J) L fun a s L=>?_);refine sw 15 (zl zey (O 2 J) J J) L fun a s L=>sw 16 (zb (O 7 J) J J) L fun a s L=>sw 17 (zt ((zng h22).frz) (xs:=[.tmp 15,.tmp 16]) (.cons (O 15 J) (.cons (O 16 J) .nil)) J J) L fun a s L=>st_appB (L':=[(2,(Pd.ptr En.SDesc d_)),(8,(Pd.rep (En.slice (En.slice En.SItem)) l_)),(9,(Pi (l_.length:Int))),(10,(Pi v11))]) 18 32 L (O 14 J) (O 17 J) U36 zb8 (by decide) ⟨_,J,by decide⟩ h23 J J J J (.k 2 (.k 8 (.k 9 (.k 10 .nil)))) fun a s og24 hg_ L=>?_;refine sw 5 (za (O 18 J) J J) L fun a s L=>en' (H17 _ _ ?_);obtain ⟨h25,h⟩:=h;refine rg (sw 19 (zbe (O 10 J) oI h25 J J) L fun a s L=>?_);refine sw 10 (zb (O 19 J) J J) L fun a s L=>en' ?_;exact hKL14 k13 a s (Nat.lt_succ_self _) ⟨(out9++r21),(v11+1),og24,L.keep (.k 2 (.cons (t:=5) J (fun _ _ h_=>h_) (.k 8 (.k 9 (.k 10 .nil))))),h⟩
 ·replace h:=h.2 hb_;refine wp_exit ?_;exact J7 out9 og10 a s (L.keep (.cons (t:=5) J (fun _ _ h_=>h_) .nil)) h
theorem zl3 {l_:(List Cl)} {r_:(List Cl)} (h:zdk l_ r_):Fn Tryz.prog 29 [(Pd.rep (En.slice En.cls) l_)] (Ro En.cls 51 r_):=by
 unfold zdk at h;refine zbr Tryz.func29 J Tryz.ntmps29 (by rfl) (by simp) fun s0 a L=>?_;refine wp_seq_k fun K1 H1=>rg (sw 2 (za (zca (E:=En.cls) (N:=s0.w.heap.size) (te:=51)) J J) L fun a s L=>?_);refine en' (H1 _ _ ?_);refine wp_seq_k fun K2 H2=>rg (zko 7 En.cls kvCls En.bool L J J J J fun a s g3 hg_ L=>?_);refine sw 3 (za (O 7 J) J J) L fun a s L=>en' (H2 _ _ ?_);refine wp_seq_k fun K4 H4=>rg (sw 4 (za (zca (E:=En.cls) (N:=s0.w.heap.size) (te:=51)) J J) L fun a s L=>?_);refine en' (H4 _ _ ?_);refine wp_seq_k fun K5 H5=>wp_seq_k fun K6 H6=>rg (sw 8 (zb (O 0 J) J J) L fun a s L=>?_);refine sw 9 (zb2 (O 8 J) U36 J J) L fun a s L=>sw 10 (zb oI J J) L fun a s L=>en' (H6 _ _ ?_);refine wp_block ?_;have J9:∀(out7:(List Cl)) (og8:Option Nat) (a:Act) (s:St),Has N0 26 s0 a s [(4,(Pd.row En.cls s0.w.heap.size 51 og8 out7))]→((zdk.j1 r_) out7)→K5 a s.w:=by
  intro out7 og8 a s L h;unfold zdk.j1 at h;show K5 a s.w;refine H5 _ _ (wp_seq_k fun K10 H10=>?_);refine rg (sw 25 (zb (O 4 J) J J) L fun a s L=>?_);refine sw 2 (za (O 25 J) J J) L fun a s L=>en' (H10 _ _ ?_);subst h;exact wp_ret (zgd J L J)
 obtain ⟨k16,h⟩:=h;refine lpg (fun k17 a s=>∃(met11:(List (Cl × Bool))) (out13:(List Cl)) (v15:Int) (og12:Option Nat) (og14:Option Nat),Has N0 26 s0 a s [(3,(Pd.map En.cls kvCls En.bool s0.w.heap.size og12 met11)),(4,(Pd.row En.cls s0.w.heap.size 51 og14 out13)),(8,(Pd.rep (En.slice En.cls) l_)),(9,(Pi (l_.length:Int))),(10,(Pi v15))]∧Dis og12 og14∧zdk.l1 l_ (zdk.j1 r_) k17 met11 out13 v15) k16 ⟨([]:(List (Cl × Bool))),([]:(List Cl)),0,(some g3),none,L.keep (.cons (t:=3) J (fun _ _ h_=>h_) (.cons (t:=4) J (fun _ _ h_=>h_) (.k 8 (.k 9 (.k 10 .nil))))),(Dis.symm Dis.none),h⟩ ?_;rintro k17 a s ⟨met11,out13,v15,og12,og14,L,d19,h⟩ KL18 hKL18;cases k17 with
 | zero=>exact h.elim
 | succ k17=>
 unfold zdk.l1 at h;refine wp_seq_k fun K20 H20=>rg (sw 11 (zbq (O 10 J) (O 9 J) J J) L fun a s L=>?_);refine en' (H20 _ _ ?_);refine wp_seq_k fun K21 H21=>cnd L J (fun hb_=>?_) (fun hb_=>?_)
 ·replace h:=h.1 hb_;refine wp_skip ?_;show K21 a s.w;refine H21 _ _ (wp_seq_k fun K22 H22=>?_);refine wp_block (wp_seq_k fun K23 H23=>?_);obtain ⟨e24,h25,h⟩:=h;refine rg (sw 12 (zbv (O 8 J) (O 10 J) h25 U36 zb8 J J) L fun a s L=>?_);refine sw 13 (zl zb8 (O 12 J) J J) L fun a s L=>?_;have lt_d28:=L.rlt 4 rfl;have lt_d27:=L.mlt 3 rfl;refine zbg En.cls (z:=(0#256)) 6 L zkn J J J J fun a s g26 hg_ L=>?_;have d27:Dis (some g26) og12:=Dis.newg hg_ lt_d27;have d28:Dis (some g26) og14:=Dis.newg hg_ lt_d28;refine zb9 (L':=[(3,(Pd.map En.cls kvCls En.bool s0.w.heap.size og12 met11)),(4,(Pd.row En.cls s0.w.heap.size 51 og14 out13)),(8,(Pd.rep (En.slice En.cls) l_)),(9,(Pi (l_.length:Int))),(10,(Pi v15))]) 6 L J (O 13 J) zb8 J J J (.cons (t:=3) J (Dis.ow (Dis.symm d27)) (.cons (t:=4) J (Dis.ow (Dis.symm d28)) (.k 8 (.k 9 (.k 10 .nil))))) fun s L=>?_;refine en' (H23 _ _ ?_);refine wp_seq_k fun K29 H29=>wp_seq_k fun K30 H30=>rg (sw 14 (zb (O 3 J) J J) L fun a s L=>?_);refine sw 15 (zbj zb8 (O 6 J) J J) L fun a s L=>sw 16 (t_mget (O 14 J) (O 15 J) U90 zqf tyv4 J J) L fun a s L=>sw 17 (zf2 (O 16 J) J J) L fun a s L=>en' (H30 _ _ ?_);refine cnd L J (fun hb_=>?_) (fun hb_=>?_)
  ·obtain ⟨h31,h⟩:=h.1 hb_;refine rg (sw 18 (zb (O 4 J) J J) L fun a s L=>?_);refine sw 19 (zbj zb8 (O 6 J) J J) L fun a s L=>sw 20 (zcz (xs:=[.tmp 19]) (.cons (O 19 J) .nil) U36 zb8 J J (by decide) J J) L fun a s L=>?_;have lt_og32_0:=L.mlt 3 rfl;have lt_og32_1:=L.blt 6 rfl;refine zck (L':=[(3,(Pd.map En.cls kvCls En.bool s0.w.heap.size og12 met11)),(6,(Pd.box En.cls s0.w.heap.size g26 e24)),(8,(Pd.rep (En.slice En.cls) l_)),(9,(Pi (l_.length:Int))),(10,(Pi v15))]) 21 L (O 18 J) (O 20 J) U36 zb8 h31 J J J J (.cons (t:=3) J (Dis.ow d19) (.cons (t:=6) J (Dis.bx d28) (.k 8 (.k 9 (.k 10 .nil))))) fun a s og32 hg_ L=>?_;have d33:Dis og32 og12:=Dis.app hg_ (Dis.symm d19) lt_og32_0;have d34:Dis og32 (some g26):=Dis.app hg_ (Dis.symm d28) lt_og32_1;refine sw 4 (za (O 21 J) J J) L fun a s L=>en' (H29 _ _ ?_);refine rg (sw 22 (zb (O 3 J) J J) L fun a s L=>?_);refine sw 23 (zbj zb8 (O 6 J) J J) L fun a s L=>zjl (L':=[(3,(Pd.map En.cls kvCls En.bool s0.w.heap.size og12 (zgi met11 e24 true))),(4,(Pd.row En.cls s0.w.heap.size 51 og32 (out13++[e24]))),(8,(Pd.rep (En.slice En.cls) l_)),(9,(Pi (l_.length:Int))),(10,(Pi v15))]) L (O 22 J) (O 23 J) o_b U90 zqf (.inl J) J J (.turn (t:=3) J (.cons (t:=4) J (Dis.ow d33) (.k 8 (.k 9 (.k 10 .nil))))) fun s L=>?_;refine en' (H22 _ _ ?_);obtain ⟨h35,h⟩:=h;refine rg (sw 24 (zbe (O 10 J) oI h35 J J) L fun a s L=>?_);refine sw 10 (zb (O 24 J) J J) L fun a s L=>en' ?_;exact hKL18 k17 a s (Nat.lt_succ_self _) ⟨(zgi met11 e24 true),(out13++[e24]),(v15+1),og12,og32,L.keep (.cons (t:=3) J (fun _ _ h_=>h_) (.cons (t:=4) J (fun _ _ h_=>h_) (.k 8 (.k 9 (.k 10 .nil))))),(Dis.symm d33),h⟩
  ·replace h:=h.2 hb_;refine wp_skip ?_;show K29 a s.w;refine H29 _ _ (rg ?_);refine sw 22 (zb (O 3 J) J J) L fun a s L=>sw 23 (zbj zb8 (O 6 J) J J) L fun a s L=>zjl (L':=[(3,(Pd.map En.cls kvCls En.bool s0.w.heap.size og12 (zgi met11 e24 true))),(4,(Pd.row En.cls s0.w.heap.size 51 og14 out13)),(8,(Pd.rep (En.slice En.cls) l_)),(9,(Pi (l_.length:Int))),(10,(Pi v15))]) L (O 22 J) (O 23 J) o_b U90 zqf (.inl J) J J (.turn (t:=3) J (.cons (t:=4) J (Dis.ow (Dis.symm d19)) (.k 8 (.k 9 (.k 10 .nil))))) fun s L=>?_;refine en' (H22 _ _ ?_);obtain ⟨h36,h⟩:=h;refine rg (sw 24 (zbe (O 10 J) oI h36 J J) L fun a s L=>?_);refine sw 10 (zb (O 24 J) J J) L fun a s L=>en' ?_;exact hKL18 k17 a s (Nat.lt_succ_self _) ⟨(zgi met11 e24 true),out13,(v15+1),og12,og14,L.keep (.cons (t:=3) J (fun _ _ h_=>h_) (.cons (t:=4) J (fun _ _ h_=>h_) (.k 8 (.k 9 (.k 10 .nil))))),d19,h⟩
 ·replace h:=h.2 hb_;refine wp_exit ?_;exact J9 out13 og14 a s (L.keep (.cons (t:=4) J (fun _ _ h_=>h_) .nil)) h
theorem zic {d_:SDesc} {l_:(List (List SItem))} {r_:(List Int)} (h:zff d_ l_ r_):Fn Tryz.prog 24 [(Pd.rep En.SDesc d_),(Pd.rep (En.slice (En.slice En.SItem)) l_)] (Ro (En.int .u8) 5 r_):=by
 unfold zff at h;refine zbr Tryz.func24 J Tryz.ntmps24 (by rfl) (by simp) fun s0 a L=>?_;refine wp_seq_k fun K1 H1=>rg (sw 2 (zcy (O 0 J) J J) L fun a s L=>?_);refine sw 4 (za (zca (E:=(En.int .u8)) (N:=s0.w.heap.size) (te:=5)) J J) L fun a s L=>en' (H1 _ _ ?_);refine wp_seq_k fun K2 H2=>?_;obtain ⟨r3,h4,r5,h6,r7,h8,h⟩:=h;refine rg (sw 5 (zl zey (O 2 J) J J) L fun a s L=>?_);refine sw 6 (zb (O 1 J) J J) L fun a s L=>sw 7 (zt ((zi0 h4).frz) (xs:=[.tmp 5,.tmp 6]) (.cons (O 5 J) (.cons (O 6 J) .nil)) J J) L fun a s L=>sw 8 (zt ((zl3 h6).frz) (xs:=[.tmp 7]) (.cons (O 7 J) .nil) J J) L fun a s L=>zes 9 L (zn3 h8) (xs:=[.tmp 8]) (.cons (O 8 J) .nil) J J J J fun a s og9 hg_ L=>?_;refine sw 4 (za (O 9 J) J J) L fun a s L=>en' (H2 _ _ ?_);subst h;exact wp_ret (zgd J L J)
theorem zkb  {r_:Bool} (h:zgy  r_):Fn Tryz.prog 12 [] (Rq (Pd.rep En.bool r_)):=by
 unfold zgy at h;refine zbr Tryz.func12 J Tryz.ntmps12 (by rfl) (by simp) fun s0 a L=>?_;refine wp_seq_k fun K1 H1=>rg (sw 0 (za o_b J J) L fun a s L=>?_);refine en' (H1 _ _ ?_);refine wp_seq_k fun K2 H2=>?_;obtain ⟨r3,h4,h⟩:=h;refine rg (sw 6 (zt (zi5 h4) (xs:=[.const (.int .u8 5),.const (.int .u8 6)]) (.cons (o_i (k:=.u8) (by decide)) (.cons (o_i (k:=.u8) (by decide)) .nil)) J J) L fun a s L=>?_);refine sw 7 (zcp (x:=(2,0,0,0,0,r3,([]:Str))) (ps:=[(0,.const (.int .i64 2)),(5,.tmp 6)]) zlj J stt68 (.cons (i:=0) oI J (z8 (zz _ _ _)) (.cons (i:=5) (O 6 J) J (zx (zx (zx (zx (zx (z8 (zz _ _ _)) J) J) J) J) J) .nil)) J J) L fun a s L=>sw 8 (zcz (xs:=[.tmp 7]) (.cons (O 7 J) .nil) U22 zfh J J (by decide) J J) L fun a s L=>sw 9 (zcp (x:=[(2,0,0,0,0,r3,([]:Str))]) (ps:=[(0,.tmp 8)]) tyz24 J stt24 (.cons (i:=0) (O 8 J) J (sub_solo (zz _ _ _)) .nil) J J) L fun a s L=>zbg En.SDesc (z:=[]) 1 L tyz24 J J J J fun a s g5 hg_ L=>?_;refine zb9 (L':=[]) 1 L J (O 9 J) zey J J J .nil fun s L=>?_;refine en' (H2 _ _ ?_);refine wp_seq_k fun K6 H6=>?_;obtain ⟨r7,h8,h⟩:=h;refine rg (sw 10 (zbj zey (O 1 J) J J) L fun a s L=>?_);refine sw 11 (zt (zpy h8) (xs:=[.const (.int .i64 6),.const (.int .i64 0),.const (.int .i64 0),.tmp 10]) (.cons oI (.cons oI (.cons oI (.cons (O 10 J) .nil)))) J J) L fun a s L=>?_;have lt_d10:=L.blt 1 rfl;refine zbg En.SDesc (z:=[]) 2 L tyz24 J J J J fun a s g9 hg_ L=>?_;have d10:Dis (some g9) (some g5):=Dis.newg hg_ lt_d10;refine zb9 (L':=[(1,(Pd.box En.SDesc s0.w.heap.size g5 [(2,0,0,0,0,r3,([]:Str))]))]) 2 L J (O 11 J) zey J J J (.cons (t:=1) J (Dis.bx (Dis.symm d10)) .nil) fun s L=>?_
 refine en' (H6 _ _ ?_);refine wp_seq_k fun K11 H11=>?_;obtain ⟨r12,h13,h⟩:=h;refine rg (sw 12 (zbj zey (O 2 J) J J) L fun a s L=>?_);refine sw 13 (zt ((zgk h13).frz) (xs:=[.tmp 12]) (.cons (O 12 J) .nil) J J) L fun a s L=>sw 3 (za (O 13 J) J J) L fun a s L=>en' (H11 _ _ ?_);refine wp_seq_k fun K14 H14=>?_;obtain ⟨r15,h16,h⟩:=h;refine rg (sw 14 (zbj zey (O 2 J) J J) L fun a s L=>?_);refine sw 15 (zb (O 3 J) J J) L fun a s L=>sw 16 (zt ((zjn h16).frz) (xs:=[.tmp 14,.tmp 15,.const (.int .u8 5)]) (.cons (O 14 J) (.cons (O 15 J) (.cons (o_i (k:=.u8) (by decide)) .nil))) J J) L fun a s L=>sw 4 (za (O 16 J) J J) L fun a s L=>en' (H14 _ _ ?_);refine wp_seq_k fun K17 H17=>?_;obtain ⟨r18,h19,h⟩:=h;refine rg (sw 17 (zbj zey (O 2 J) J J) L fun a s L=>?_);refine sw 18 (zb (O 3 J) J J) L fun a s L=>sw 19 (zt ((zjn h19).frz) (xs:=[.tmp 17,.tmp 18,.const (.int .u8 7)]) (.cons (O 17 J) (.cons (O 18 J) (.cons (o_i (k:=.u8) (by decide)) .nil))) J J) L fun a s L=>sw 5 (za (O 19 J) J J) L fun a s L=>en' (H17 _ _ ?_);refine wp_seq_k fun K20 H20=>wp_seq_k fun K21 H21=>?_;obtain ⟨b22,h23,h⟩:=h;refine rg (sw 20 (zb (O 3 J) J J) L fun a s L=>?_);refine sw 21 (zb2 (O 20 J) U25 J J) L fun a s L=>sw 22 (zkd (O 21 J) oI J J) L fun a s L=>sw 23 (zb (O 22 J) J J) L fun a s L=>sw 24 (z7 J J J (fun hc_=>zb (O 4 J) J J)) L fun a s L=>sw 25 (z7 J J J (fun hc_=>zb2 (o_w hc_ 24 J) U25 J J)) L fun a s L=>sw 26 (z7 J J J (fun hc_=>zkd (o_w hc_ 25 J) oI J J)) L fun a s L=>sw 27 (h23 ▸ (t_or (O 23 J) (fun hc2_=>(o_w hc2_ 26 J)) J J)) L fun a s L=>en' (H21 _ _ ?_)
 refine cnd L J (fun hb_=>?_) (fun hb_=>?_)
 ·replace h:=h.1 hb_;refine wp_seq_k fun K24 H24=>rg (sw 0 (za o_b J J) L fun a s L=>?_);refine en' (H24 _ _ ?_);subst h;exact wp_ret (zdr J L J)
 ·replace h:=h.2 hb_;refine wp_skip ?_;show K20 a s.w;refine H20 _ _ (wp_seq_k fun K25 H25=>?_);obtain ⟨r26,h27,r28,h29,r30,h31,b32,h33,r34,h35,r36,h37,r38,h39,r40,h41,r42,h43,r44,h45,r46,h47,r48,h49,r50,h51,r52,h53,b54,h55,r56,h57,r58,h59,h⟩:=h;refine rda zbp 61 [(Pd.rep (En.slice (En.slice En.SItem)) r15),(Pd.rep (En.slice (En.slice En.SItem)) r12),(Pd.rep En.bool r26),(Pd.rep En.bool r26),(Pd.when ((r26)=true) (Pd.rep (En.slice (En.slice En.SItem)) r18)),(Pd.when ((r26)=true) (Pi (r18.length:Int))),(Pd.when ((r26)=true) (Pd.rep En.bool ((r18.length:Int)==0))),(Pd.rep En.bool (r26&&((r18.length:Int)==0))),(Pd.rep En.bool (r26&&((r18.length:Int)==0))),(Pd.when (((r26&&((r18.length:Int)==0)))=true) (Pd.rep En.SDesc r7)),(Pd.when (((r26&&((r18.length:Int)==0)))=true) (Pd.rep (En.slice (En.slice En.SItem)) r12)),(Pd.when (((r26&&((r18.length:Int)==0)))=true) (Pd.rep En.bool r28)),(Pd.rep En.bool ((r26&&((r18.length:Int)==0))&&r28)),(Pd.rep En.bool ((r26&&((r18.length:Int)==0))&&r28)),(Pd.when ((((r26&&((r18.length:Int)==0))&&r28))=true) (Pd.rep En.SDesc r7)),(Pd.when ((((r26&&((r18.length:Int)==0))&&r28))=true) (Pd.rep (En.slice (En.slice En.SItem)) r18)),(Pd.when ((((r26&&((r18.length:Int)==0))&&r28))=true) (Pd.rep En.bool r30)),(Pd.when ((((r26&&((r18.length:Int)==0))&&r28))=true) (Pd.rep En.bool (!r30))),(Pd.rep En.bool b32),(Pd.rep En.bool b32),(Pd.when ((b32)=true) (Pd.rep En.SDesc [(2,0,0,0,0,r3,([]:Str))])),(Pd.when ((b32)=true) (Pd.rep En.SDesc [(2,0,0,0,0,r3,([]:Str))])),(Pd.when ((b32)=true) (Pd.rep (En.slice (En.slice En.SItem)) r34)),(Pd.when ((b32)=true) (Pd.rep En.bool r36)),(Pd.when ((b32)=true) (Pd.rep En.bool (!r36))),(Pd.rep En.bool (b32&&(!r36))),(Pd.rep En.bool (b32&&(!r36))),(Pd.when (((b32&&(!r36)))=true) (Pd.rep En.SDesc [(2,0,0,0,0,r3,([]:Str))])),(Pd.when (((b32&&(!r36)))=true) (Pd.rep En.SDesc [(2,0,0,0,0,r3,([]:Str))])),(Pd.when (((b32&&(!r36)))=true) (Pd.rep (En.slice (En.int .u8)) [6])),(Pd.when (((b32&&(!r36)))=true) (Pd.rep (En.slice (En.slice En.SItem)) r38)),(Pd.when (((b32&&(!r36)))=true) (Pd.rep En.bool r40)),(Pd.rep En.bool ((b32&&(!r36))&&r40)),(Pd.rep En.bool ((b32&&(!r36))&&r40)),(Pd.when ((((b32&&(!r36))&&r40))=true) (Pd.rep En.SDesc r7)),(Pd.when ((((b32&&(!r36))&&r40))=true) (Pd.rep (En.slice (En.slice En.SItem)) r12)),(Pd.when ((((b32&&(!r36))&&r40))=true) (Pd.rep (En.slice (En.int .u8)) r42)),(Pd.when ((((b32&&(!r36))&&r40))=true) (Pd.rep (En.slice (En.int .u8)) [0,5])),(Pd.when ((((b32&&(!r36))&&r40))=true) (Pd.rep En.bool r44)),(Pd.rep En.bool (((b32&&(!r36))&&r40)&&r44)),(Pd.rep En.bool (((b32&&(!r36))&&r40)&&r44)),(Pd.when (((((b32&&(!r36))&&r40)&&r44))=true) (Pd.rep En.SDesc r7)),(Pd.when (((((b32&&(!r36))&&r40)&&r44))=true) (Pd.rep (En.slice (En.slice En.SItem)) r18)),(Pd.when (((((b32&&(!r36))&&r40)&&r44))=true) (Pd.rep (En.slice (En.int .u8)) r46)),(Pd.when (((((b32&&(!r36))&&r40)&&r44))=true) (Pd.rep (En.slice (En.int .u8)) [0])),(Pd.when (((((b32&&(!r36))&&r40)&&r44))=true) (Pd.rep En.bool r48)),(Pd.rep En.bool ((((b32&&(!r36))&&r40)&&r44)&&r48)),(Pd.rep En.bool ((((b32&&(!r36))&&r40)&&r44)&&r48)),(Pd.when ((((((b32&&(!r36))&&r40)&&r44)&&r48))=true) (Pd.rep (En.slice (En.slice En.SItem)) r12)),(Pd.when ((((((b32&&(!r36))&&r40)&&r44)&&r48))=true) (Pd.rep En.str r50)),(Pd.when ((((((b32&&(!r36))&&r40)&&r44)&&r48))=true) (Pd.rep (En.slice (En.slice En.SItem)) r15)),(Pd.when ((((((b32&&(!r36))&&r40)&&r44)&&r48))=true) (Pd.rep En.str r52)),(Pd.when ((((((b32&&(!r36))&&r40)&&r44)&&r48))=true) (Pd.rep En.bool (r50==r52))),(Pd.rep En.bool b54),(Pd.rep En.bool b54),(Pd.when ((b54)=true) (Pd.rep (En.slice (En.slice En.SItem)) r12)),(Pd.when ((b54)=true) (Pd.rep En.str r56)),(Pd.when ((b54)=true) (Pd.rep (En.slice (En.slice En.SItem)) r18)),(Pd.when ((b54)=true) (Pd.rep En.str r58)),(Pd.when ((b54)=true) (Pd.rep En.bool (r56 != r58))),(Pd.rep En.bool (b54&&(r56 != r58)))] L (by kernel_rfl) J J ?_ ?_
  ·refine zm.cons (zb (O 4 J) J J) ?_;refine zm.cons (zb (O 3 J) J J) (zm.cons (zt (zgn h27) (xs:=[.tmp 28,.tmp 29]) (.cons (O 28 J) (.cons (O 29 J) .nil)) J J) ?_);refine zm.cons (zb (O 30 J) J J) (zm.cons (z7 J J J (fun hc_=>zb (O 5 J) J J)) ?_);refine zm.cons (z7 J J J (fun hc_=>zb2 (o_w hc_ 32 J) U25 J J)) (zm.cons (z7 J J J (fun hc_=>zbm (o_w hc_ 33 J) oI J J)) ?_);refine zm.cons (zcc (O 31 J) (fun hc2_=>(o_w hc2_ 34 J)) J J) (zm.cons (zb (O 35 J) J J) ?_);refine zm.cons (z7 J J J (fun hc_=>zbj zey (O 2 J) J J)) (zm.cons (z7 J J J (fun hc_=>zb (O 3 J) J J)) ?_);refine zm.cons (z7 J J J (fun hc_=>zt (zf3 (h29 hc_)) (xs:=[.tmp 37,.tmp 38]) (.cons (o_w hc_ 37 J) (.cons (o_w hc_ 38 J) .nil)) J J)) (zm.cons (zcc (O 36 J) (fun hc2_=>(o_w hc2_ 39 J)) J J) ?_);refine zm.cons (zb (O 40 J) J J) (zm.cons (z7 J J J (fun hc_=>zbj zey (O 2 J) J J)) ?_);refine zm.cons (z7 J J J (fun hc_=>zb (O 5 J) J J)) (zm.cons (z7 J J J (fun hc_=>zt (zf3 (h31 hc_)) (xs:=[.tmp 42,.tmp 43]) (.cons (o_w hc_ 42 J) (.cons (o_w hc_ 43 J) .nil)) J J)) ?_);refine zm.cons (z7 J J J (fun hc_=>zf2 (o_w hc_ 44 J) J J)) (zm.cons (h33 ▸ (zcc (O 41 J) (fun hc2_=>(o_w hc2_ 45 J)) J J)) ?_);refine zm.cons (zb (O 46 J) J J) (zm.cons (z7 J J J (fun hc_=>zbj zey (O 1 J) J J)) ?_);refine zm.cons (z7 J J J (fun hc_=>zbj zey (O 1 J) J J)) (zm.cons (z7 J J J (fun hc_=>zt ((zgk (h35 hc_)).frz) (xs:=[.tmp 49]) (.cons (o_w hc_ 49 J) .nil) J J)) ?_);refine zm.cons (z7 J J J (fun hc_=>zt (zf3 (h37 hc_)) (xs:=[.tmp 48,.tmp 50]) (.cons (o_w hc_ 48 J) (.cons (o_w hc_ 50 J) .nil)) J J)) (zm.cons (z7 J J J (fun hc_=>zf2 (o_w hc_ 51 J) J J)) ?_)
   refine zm.cons (zcc (O 47 J) (fun hc2_=>(o_w hc2_ 52 J)) J J) (zm.cons (zb (O 53 J) J J) ?_);refine zm.cons (z7 J J J (fun hc_=>zbj zey (O 1 J) J J)) (zm.cons (z7 J J J (fun hc_=>zbj zey (O 1 J) J J)) ?_);refine zm.cons (z7 J J J (fun hc_=>zcz (xs:=[.const (.int .u8 6)]) (.cons (o_i (k:=.u8) (by decide)) .nil) U26 ty5 J J (by decide) J J)) (zm.cons (z7 J J J (fun hc_=>zt ((zkr (h39 hc_)).frz) (xs:=[.tmp 56,.tmp 57]) (.cons (o_w hc_ 56 J) (.cons (o_w hc_ 57 J) .nil)) J J)) ?_);refine zm.cons (z7 J J J (fun hc_=>zt (zf3 (h41 hc_)) (xs:=[.tmp 55,.tmp 58]) (.cons (o_w hc_ 55 J) (.cons (o_w hc_ 58 J) .nil)) J J)) (zm.cons (zcc (O 54 J) (fun hc2_=>(o_w hc2_ 59 J)) J J) ?_);refine zm.cons (zb (O 60 J) J J) (zm.cons (z7 J J J (fun hc_=>zbj zey (O 2 J) J J)) ?_);refine zm.cons (z7 J J J (fun hc_=>zb (O 3 J) J J)) (zm.cons (z7 J J J (fun hc_=>zt ((zic (h43 hc_)).frz) (xs:=[.tmp 62,.tmp 63]) (.cons (o_w hc_ 62 J) (.cons (o_w hc_ 63 J) .nil)) J J)) ?_);refine zm.cons (z7 J J J (fun hc_=>zcz (xs:=[.const (.int .u8 0),.const (.int .u8 5)]) (.cons (o_i (k:=.u8) (by decide)) (.cons (o_i (k:=.u8) (by decide)) .nil)) U26 ty5 J J (by decide) J J)) (zm.cons (z7 J J J (fun hc_=>zt (zhk (h45 hc_)) (xs:=[.tmp 64,.tmp 65]) (.cons (o_w hc_ 64 J) (.cons (o_w hc_ 65 J) .nil)) J J)) ?_);refine zm.cons (zcc (O 61 J) (fun hc2_=>(o_w hc2_ 66 J)) J J) (zm.cons (zb (O 67 J) J J) ?_);refine zm.cons (z7 J J J (fun hc_=>zbj zey (O 2 J) J J)) (zm.cons (z7 J J J (fun hc_=>zb (O 5 J) J J)) ?_);refine zm.cons (z7 J J J (fun hc_=>zt ((zic (h47 hc_)).frz) (xs:=[.tmp 69,.tmp 70]) (.cons (o_w hc_ 69 J) (.cons (o_w hc_ 70 J) .nil)) J J)) (zm.cons (z7 J J J (fun hc_=>zcz (xs:=[.const (.int .u8 0)]) (.cons (o_i (k:=.u8) (by decide)) .nil) U26 ty5 J J (by decide) J J)) ?_)
   refine zm.cons (z7 J J J (fun hc_=>zt (zhk (h49 hc_)) (xs:=[.tmp 71,.tmp 72]) (.cons (o_w hc_ 71 J) (.cons (o_w hc_ 72 J) .nil)) J J)) (zm.cons (zcc (O 68 J) (fun hc2_=>(o_w hc2_ 73 J)) J J) ?_);refine zm.cons (zb (O 74 J) J J) (zm.cons (z7 J J J (fun hc_=>zb (O 3 J) J J)) ?_);refine zm.cons (z7 J J J (fun hc_=>zt (zia (h51 hc_)) (xs:=[.tmp 76]) (.cons (o_w hc_ 76 J) .nil) J J)) (zm.cons (z7 J J J (fun hc_=>zb (O 4 J) J J)) ?_);refine zm.cons (z7 J J J (fun hc_=>zt (zia (h53 hc_)) (xs:=[.tmp 78]) (.cons (o_w hc_ 78 J) .nil) J J)) (zm.cons (z7 J J J (fun hc_=>t_eqv eqv_str (o_w hc_ 77 J) (o_w hc_ 79 J) J J)) ?_);refine zm.cons (h55 ▸ (zcc (O 75 J) (fun hc2_=>(o_w hc2_ 80 J)) J J)) (zm.cons (zb (O 81 J) J J) ?_);refine zm.cons (z7 J J J (fun hc_=>zb (O 3 J) J J)) (zm.cons (z7 J J J (fun hc_=>zt (zia (h57 hc_)) (xs:=[.tmp 83]) (.cons (o_w hc_ 83 J) .nil) J J)) ?_);refine zm.cons (z7 J J J (fun hc_=>zb (O 5 J) J J)) (zm.cons (z7 J J J (fun hc_=>zt (zia (h59 hc_)) (xs:=[.tmp 85]) (.cons (o_w hc_ 85 J) .nil) J J)) ?_);refine zm.cons (z7 J J J (fun hc_=>t_nev eqv_str (o_w hc_ 84 J) (o_w hc_ 86 J) J J)) (zm.cons (zcc (O 82 J) (fun hc2_=>(o_w hc2_ 87 J)) J J) ?_);exact zm.nil
  intro a s _ L;refine sw 0 (za (O 88 J) J J) L fun a s L=>en' (H25 _ _ ?_);subst h;exact wp_ret (zdr J L J)
theorem zpf {d_:SDesc} {l_:(List (List SItem))} {r_:Bool} (h:zcw d_ l_ r_):Fn Tryz.prog 15 [(Pd.rep En.SDesc d_),(Pd.rep (En.slice (En.slice En.SItem)) l_)] (Rq (Pd.rep En.bool r_)):=by
 unfold zcw at h;refine zbr Tryz.func15 J Tryz.ntmps15 (by rfl) (by simp) fun s0 a L=>?_;refine wp_seq_k fun K1 H1=>rg (sw 2 (zcy (O 0 J) J J) L fun a s L=>?_);refine sw 4 (za o_b J J) L fun a s L=>en' (H1 _ _ ?_);refine wp_seq_k fun K2 H2=>wp_seq_k fun K3 H3=>rg (sw 5 (za oI J J) L fun a s L=>?_);refine en' (H3 _ _ ?_);refine wp_block ?_;have J4:∀(a:Act) (s:St),Has N0 45 s0 a s [(1,(Pd.rep (En.slice (En.slice En.SItem)) l_)),(2,(Pd.ptr En.SDesc d_))]→((zcw.j1 d_ l_ r_))→K2 a s.w:=by
  intro a s L h;unfold zcw.j1 at h;show K2 a s.w;refine H2 _ _ (wp_seq_k fun K5 H5=>?_);obtain ⟨b6,h7,h⟩:=h;refine rg (sw 36 (zb (O 1 J) J J) L fun a s L=>?_);refine sw 37 (zb2 (O 36 J) U25 J J) L fun a s L=>sw 38 (zg2 (O 37 J) oI J J) L fun a s L=>sw 39 (zb (O 38 J) J J) L fun a s L=>sw 40 (z7 J J J (fun hc_=>zc3 (off:=0) (O 2 J) U24 J (zcn (zh _ _)) J zgc J J)) L fun a s L=>sw 41 (z7 J J J (fun hc_=>zl zgc (o_w hc_ 40 J) J J)) L fun a s L=>sw 42 (z7 J J J (fun hc_=>zb2 (o_w hc_ 41 J) U22 J J)) L fun a s L=>sw 43 (z7 J J J (fun hc_=>zg2 (o_w hc_ 42 J) oI J J)) L fun a s L=>sw 44 (h7 ▸ (zcc (O 39 J) (fun hc2_=>(o_w hc2_ 43 J)) J J)) L fun a s L=>sw 4 (za (O 44 J) J J) L fun a s L=>?_;refine en' (H5 _ _ ?_);subst h;exact wp_ret (zdr J L J)
 obtain ⟨k9,h⟩:=h;refine lpg (fun k10 a s=>∃(i8:Int),Has N0 45 s0 a s [(1,(Pd.rep (En.slice (En.slice En.SItem)) l_)),(2,(Pd.ptr En.SDesc d_)),(5,(Pi i8))]∧zcw.l1 d_ l_ r_ (zcw.j1 d_ l_ r_) k10 i8) k9 ⟨0,L.keep (.k 1 (.k 2 (.k 5 .nil))),h⟩ ?_;rintro k10 a s ⟨i8,L,h⟩ KL11 hKL11;cases k10 with
 | zero=>exact h.elim
 | succ k10=>
 unfold zcw.l1 at h;refine wp_seq_k fun K12 H12=>wp_seq_k fun K13 H13=>rg (sw 6 (zb (O 5 J) J J) L fun a s L=>?_);refine sw 7 (zb (O 1 J) J J) L fun a s L=>sw 8 (zb2 (O 7 J) U25 J J) L fun a s L=>sw 9 (zbq (O 6 J) (O 8 J) J J) L fun a s L=>en' (H13 _ _ ?_);refine cnd L J (fun hb_=>?_) (fun hb_=>?_)
 ·replace h:=h.1 hb_;refine wp_skip ?_;show K12 a s.w;refine H12 _ _ (wp_seq_k fun K14 H14=>?_);refine wp_block (wp_seq_k fun K15 H15=>?_);obtain ⟨e16,h17,r18,h19,h20,e21,h22,e23,h24,r25,h26,b27,h28,h⟩:=h;refine rda zbp 24 [(Pd.rep En.SDesc d_),(Pd.rep (En.slice (En.slice En.SItem)) l_),(Pi i8),(Pd.ptr (En.slice En.SItem) e16),(Pd.rep (En.slice En.SItem) e16),(Pd.rep En.bool r18),(Pd.rep En.bool (!r18)),(Pd.rep En.bool (!r18)),(Pd.when (((!r18))=false) (Pi i8)),(Pd.when (((!r18))=false) (Pd.rep En.bool (decide (0<i8)))),(Pd.when (((!r18))=false) (Pd.rep En.bool (decide (0<i8)))),(Pd.when ((((!r18))=false)∧(decide (0<i8))=true) (Pd.rep (En.slice (En.slice En.SItem)) l_)),(Pd.when ((((!r18))=false)∧(decide (0<i8))=true) (Pi i8)),(Pd.when ((((!r18))=false)∧(decide (0<i8))=true) (Pi (i8-1))),(Pd.when ((((!r18))=false)∧(decide (0<i8))=true) (Pd.ptr (En.slice En.SItem) e21)),(Pd.when ((((!r18))=false)∧(decide (0<i8))=true) (Pd.rep (En.slice En.SItem) e21)),(Pd.when ((((!r18))=false)∧(decide (0<i8))=true) (Pd.rep (En.slice (En.slice En.SItem)) l_)),(Pd.when ((((!r18))=false)∧(decide (0<i8))=true) (Pi i8)),(Pd.when ((((!r18))=false)∧(decide (0<i8))=true) (Pd.ptr (En.slice En.SItem) e23)),(Pd.when ((((!r18))=false)∧(decide (0<i8))=true) (Pd.rep (En.slice En.SItem) e23)),(Pd.when ((((!r18))=false)∧(decide (0<i8))=true) (Pi r25)),(Pd.when ((((!r18))=false)∧(decide (0<i8))=true) (Pd.rep En.bool (decide (0≤r25)))),(Pd.when (((!r18))=false) (Pd.rep En.bool ((decide (0<i8))&&(decide (0≤r25))))),(Pd.rep En.bool b27)] L (by kernel_rfl) J J ?_ ?_
  ·refine zm.cons (zl zey (O 2 J) J J) ?_;refine zm.cons (zb (O 1 J) J J) (zm.cons (zb (O 5 J) J J) ?_);refine zm.cons (zbv (O 13 J) (O 14 J) h17 U25 zdj J J) (zm.cons (zl zdj (O 15 J) J J) ?_);refine zm.cons (zt (zpp h19) (xs:=[.tmp 12,.tmp 16]) (.cons (O 12 J) (.cons (O 16 J) .nil)) J J) (zm.cons (zf2 (O 17 J) J J) ?_);refine zm.cons (zb (O 18 J) J J) (zm.cons (z7 J J J (fun hc_=>zb (O 5 J) J J)) ?_);refine zm.cons (z7 J J J (fun hc_=>zhu (o_w hc_ 20 J) oI J J)) (zm.cons (z7 J J J (fun hc_=>zb (o_w hc_ 21 J) J J)) ?_);refine zm.cons (t_g J J J (fun hc_=>zb (O 1 J) J J)) (zm.cons (t_g J J J (fun hc_=>zb (O 5 J) J J)) ?_);refine zm.cons (t_g J J J (fun hc_=>zec (o_w hc_ 24 J) oI (h20 hc_) J J)) (zm.cons (t_g J J J (fun hc_=>zbv (o_w hc_ 23 J) (o_w hc_ 25 J) (h22 hc_) U25 zdj J J)) ?_);refine zm.cons (t_g J J J (fun hc_=>zl zdj (o_w hc_ 26 J) J J)) (zm.cons (t_g J J J (fun hc_=>zb (O 1 J) J J)) ?_);refine zm.cons (t_g J J J (fun hc_=>zb (O 5 J) J J)) (zm.cons (t_g J J J (fun hc_=>zbv (o_w hc_ 28 J) (o_w hc_ 29 J) (h24 hc_) U25 zdj J J)) ?_);refine zm.cons (t_g J J J (fun hc_=>zl zdj (o_w hc_ 30 J) J J)) (zm.cons (t_g J J J (fun hc_=>zt (zge (h26 hc_)) (xs:=[.tmp 27,.tmp 31]) (.cons (o_w hc_ 27 J) (.cons (o_w hc_ 31 J) .nil)) J J)) ?_);refine zm.cons (t_g J J J (fun hc_=>zke (o_w hc_ 32 J) oI J J)) (zm.cons (z7 J J J (fun hc_=>zcc (o_w hc_ 22 J) (fun hc2_=>(o_w (And.intro hc_ hc2_) 33 J)) J J)) ?_);refine zm.cons (h28 ▸ (t_or (O 19 J) (fun hc2_=>(o_w hc2_ 34 J)) J J)) ?_;exact zm.nil
  intro a s _ L;refine en' (H15 _ _ ?_);refine cnd L J (fun hb_=>?_) (fun hb_=>?_)
  ·replace h:=h.1 hb_;refine wp_seq_k fun K29 H29=>rg (sw 4 (za o_b J J) L fun a s L=>?_);refine en' (H29 _ _ ?_);subst h;exact wp_ret (zdr J L J)
  ·replace h:=h.2 hb_;refine wp_skip ?_;show K14 a s.w;refine H14 _ _ ?_;obtain ⟨h30,h⟩:=h;refine rg (sw 10 (zb (O 5 J) J J) L fun a s L=>?_);refine sw 11 (zbe (O 10 J) oI h30 J J) L fun a s L=>sw 5 (za (O 11 J) J J) L fun a s L=>en' ?_;exact hKL11 k10 a s (Nat.lt_succ_self _) ⟨(i8+1),L.keep (.k 1 (.k 2 (.k 5 .nil))),h⟩
 ·replace h:=h.2 hb_;refine wp_exit ?_;exact J4 a s (L.keep (.k 1 (.k 2 .nil))) h
theorem zj8 {d_:SDesc} {r_:(List (List SItem))} (h:zgu d_ r_):Fn Tryz.prog 18 [(Pd.rep En.SDesc d_)] (Ro (En.slice En.SItem) 47 r_):=by
 unfold zgu at h;refine zbr Tryz.func18 J Tryz.ntmps18 (by rfl) (by simp) fun s0 a L=>?_;refine wp_seq_k fun K1 H1=>rg (sw 1 (zcy (O 0 J) J J) L fun a s L=>?_);refine sw 2 (za (zca (E:=(En.slice En.SItem)) (N:=s0.w.heap.size) (te:=47)) J J) L fun a s L=>en' (H1 _ _ ?_);refine wp_seq_k fun K2 H2=>?_;obtain ⟨h3,h⟩:=h;refine rg (sw 3 (zc3 (off:=0) (O 1 J) U24 J (zcn (zh _ _)) J zgc J J) L fun a s L=>?_);refine sw 4 (zl zgc (O 3 J) J J) L fun a s L=>sw 5 (zb2 (O 4 J) U22 J J) L fun a s L=>sw 6 (zec (O 5 J) oI h3 J J) L fun a s L=>sw 7 (zcp (x:=(1,(d_.length:Int)-1,0,0)) (ps:=[(0,.const (.int .i64 1)),(1,.tmp 6)]) zeu J zh9 (.cons (i:=0) oI J (z8 (zz _ _ _)) (.cons (i:=1) (O 6 J) J (zx (z8 (zz _ _ _)) J) .nil)) J J) L fun a s L=>sw 8 (zcz (xs:=[.tmp 7]) (.cons (O 7 J) .nil) U47 zc9 J J (by decide) J J) L fun a s L=>zer (xs:=[.tmp 8]) 9 L (.cons (O 8 J) .nil) U25 zdj J J (by decide) J J J J fun a s g4 hg_ L=>?_;refine sw 2 (za (O 9 J) J J) L fun a s L=>en' (H2 _ _ ?_);subst h;exact wp_ret (zgd J L J)
theorem zm7 {d_:SDesc} {l_:(List (List SItem))} {cv_:Int} {r_:(List (List SItem))} (h:zbk d_ l_ cv_ r_):Fn Tryz.prog 20 [(Pd.rep En.SDesc d_),(Pd.rep (En.slice (En.slice En.SItem)) l_),(Pd.rep (En.int .u8) cv_)] (Ro (En.slice En.SItem) 47 r_):=by
 unfold zbk at h;refine zbr Tryz.func20 J Tryz.ntmps20 (by rfl) (by simp) fun s0 a L=>?_;refine wp_seq_k fun K1 H1=>rg (sw 3 (zcy (O 0 J) J J) L fun a s L=>?_);refine sw 6 (za (zca (E:=(En.slice En.SItem)) (N:=s0.w.heap.size) (te:=47)) J J) L fun a s L=>en' (H1 _ _ ?_);refine wp_seq_k fun K2 H2=>rg (sw 7 (za (zhz (E:=En.SBranch)) J J) L fun a s L=>?_);refine en' (H2 _ _ ?_);refine wp_seq_k fun K3 H3=>wp_seq_k fun K4 H4=>rg (sw 8 (za oI J J) L fun a s L=>?_);refine en' (H4 _ _ ?_);refine wp_block ?_;have J6:∀(m5:(List SBranch)) (a:Act) (s:St),Has N0 54 s0 a s [(7,(Pd.rep (En.slice En.SBranch) m5))]→((zbk.j2 r_) m5)→K3 a s.w:=by
  intro m5 a s L h;unfold zbk.j2 at h;show K3 a s.w;refine H3 _ _ (wp_seq_k fun K7 H7=>?_);refine rg (sw 11 (za (zca (E:=(En.slice En.SItem)) (N:=s0.w.heap.size) (te:=47)) J J) L fun a s L=>?_);refine en' (H7 _ _ ?_);refine wp_seq_k fun K8 H8=>wp_seq_k fun K9 H9=>rg (sw 12 (za oI J J) L fun a s L=>?_);refine en' (H9 _ _ ?_);refine wp_block ?_;have J12:∀(out10:(List (List SItem))) (og11:Option Nat) (a:Act) (s:St),Has N0 54 s0 a s [(11,(Pd.row (En.slice En.SItem) s0.w.heap.size 47 og11 out10))]→((zbk.j1 r_) out10)→K8 a s.w:=by
   intro out10 og11 a s L h;unfold zbk.j1 at h;show K8 a s.w;refine H8 _ _ (wp_seq_k fun K13 H13=>?_);refine rg (sw 53 (zb (O 11 J) J J) L fun a s L=>?_);refine sw 6 (za (O 53 J) J J) L fun a s L=>en' (H13 _ _ ?_);subst h;exact wp_ret (zgd J L J)
  obtain ⟨k17,h⟩:=h;refine lpg (fun k18 a s=>∃(out14:(List (List SItem))) (i16:Int) (og15:Option Nat),Has N0 54 s0 a s [(7,(Pd.rep (En.slice En.SBranch) m5)),(11,(Pd.row (En.slice En.SItem) s0.w.heap.size 47 og15 out14)),(12,(Pi i16))]∧zbk.l1 m5 (zbk.j1 r_) k18 out14 i16) k17 ⟨([]:(List (List SItem))),0,none,L.keep (.k 7 (.cons (t:=11) J (fun _ _ h_=>h_) (.k 12 .nil))),h⟩ ?_;rintro k18 a s ⟨out14,i16,og15,L,h⟩ KL19 hKL19;cases k18 with
  | zero=>exact h.elim
  | succ k18=>
  unfold zbk.l1 at h;refine wp_seq_k fun K20 H20=>wp_seq_k fun K21 H21=>rg (sw 39 (zb (O 12 J) J J) L fun a s L=>?_);refine sw 40 (zb (O 7 J) J J) L fun a s L=>sw 41 (zb2 (O 40 J) U79 J J) L fun a s L=>sw 42 (zbq (O 39 J) (O 41 J) J J) L fun a s L=>en' (H21 _ _ ?_);refine cnd L J (fun hb_=>?_) (fun hb_=>?_)
  ·replace h:=h.1 hb_;refine wp_skip ?_;show K20 a s.w;refine H20 _ _ (wp_seq_k fun K22 H22=>?_);refine wp_block ?_;obtain ⟨e23,h24,h25,h⟩:=h;refine rg (sw 45 (zb (O 11 J) J J) L fun a s L=>?_);refine sw 46 (zb (O 7 J) J J) L fun a s L=>sw 47 (zb (O 12 J) J J) L fun a s L=>sw 48 (zbv (O 46 J) (O 47 J) h24 U79 zhh J J) L fun a s L=>sw 49 (zc3 (off:=0) (O 48 J) U82 J (zk (zh _ _)) J zdj J J) L fun a s L=>sw 50 (zl zdj (O 49 J) J J) L fun a s L=>sw 51 (zcz (xs:=[.tmp 50]) (.cons (O 50 J) .nil) U25 zdj J J (by decide) J J) L fun a s L=>zck (L':=[(7,(Pd.rep (En.slice En.SBranch) m5)),(12,(Pi i16))]) 52 L (O 45 J) (O 51 J) U25 zdj h25 J J J J (.k 7 (.k 12 .nil)) fun a s og26 hg_ L=>?_;refine sw 11 (za (O 52 J) J J) L fun a s L=>en' (H22 _ _ ?_);obtain ⟨h27,h⟩:=h;refine rg (sw 43 (zb (O 12 J) J J) L fun a s L=>?_);refine sw 44 (zbe (O 43 J) oI h27 J J) L fun a s L=>sw 12 (za (O 44 J) J J) L fun a s L=>en' ?_;exact hKL19 k18 a s (Nat.lt_succ_self _) ⟨(out14++[e23.1]),(i16+1),og26,L.keep (.k 7 (.cons (t:=11) J (fun _ _ h_=>h_) (.k 12 .nil))),h⟩
  ·replace h:=h.2 hb_;refine wp_exit ?_;exact J12 out14 og15 a s (L.keep (.cons (t:=11) J (fun _ _ h_=>h_) .nil)) h
 obtain ⟨k30,h⟩:=h;refine lpg (fun k31 a s=>∃(m28:(List SBranch)) (i29:Int),Has N0 54 s0 a s [(1,(Pd.rep (En.slice (En.slice En.SItem)) l_)),(2,(Pd.rep (En.int .u8) cv_)),(3,(Pd.ptr En.SDesc d_)),(7,(Pd.rep (En.slice En.SBranch) m28)),(8,(Pi i29))]∧zbk.l2 d_ l_ cv_ (zbk.j2 r_) k31 m28 i29) k30 ⟨([]:(List SBranch)),0,L.keep (.k 1 (.k 2 (.k 3 (.k 7 (.k 8 .nil))))),h⟩ ?_;rintro k31 a s ⟨m28,i29,L,h⟩ KL32 hKL32;cases k31 with
 | zero=>exact h.elim
 | succ k31=>
 unfold zbk.l2 at h;refine wp_seq_k fun K33 H33=>wp_seq_k fun K34 H34=>rg (sw 13 (zb (O 8 J) J J) L fun a s L=>?_);refine sw 14 (zb (O 1 J) J J) L fun a s L=>sw 15 (zb2 (O 14 J) U25 J J) L fun a s L=>sw 16 (zbq (O 13 J) (O 15 J) J J) L fun a s L=>en' (H34 _ _ ?_);refine cnd L J (fun hb_=>?_) (fun hb_=>?_)
 ·replace h:=h.1 hb_;refine wp_skip ?_;show K33 a s.w;refine H33 _ _ (wp_seq_k fun K35 H35=>?_);refine wp_block (wp_seq_k fun K36 H36=>?_);obtain ⟨e37,h38,r39,h40,h⟩:=h;refine rda zbp 7 [(Pd.rep En.SDesc d_),(Pd.rep (En.slice (En.slice En.SItem)) l_),(Pi i29),(Pd.ptr (En.slice En.SItem) e37),(Pd.rep (En.slice En.SItem) e37),(Pd.rep (En.int .u8) cv_),(Pd.rep (En.slice En.SBranch) r39)] L (by kernel_rfl) J J ?_ ?_
  ·refine zm.cons (zl zey (O 3 J) J J) ?_;refine zm.cons (zb (O 1 J) J J) (zm.cons (zb (O 8 J) J J) ?_);refine zm.cons (zbv (O 20 J) (O 21 J) h38 U25 zdj J J) (zm.cons (zl zdj (O 22 J) J J) ?_);refine zm.cons (zb (O 2 J) J J) (zm.cons (zt ((ref15_On_ok h40).frz) (xs:=[.tmp 19,.tmp 23,.tmp 24]) (.cons (O 19 J) (.cons (O 23 J) (.cons (O 24 J) .nil))) J J) ?_);exact zm.nil
  intro a s _ L;refine sw 9 (za (O 25 J) J J) L fun a s L=>en' (H36 _ _ ?_);refine wp_seq_k fun K41 H41=>rg (sw 10 (za oI J J) L fun a s L=>?_);refine en' (H41 _ _ ?_);refine wp_block ?_;have J43:∀(m42:(List SBranch)) (a:Act) (s:St),Has N0 54 s0 a s [(1,(Pd.rep (En.slice (En.slice En.SItem)) l_)),(2,(Pd.rep (En.int .u8) cv_)),(3,(Pd.ptr En.SDesc d_)),(7,(Pd.rep (En.slice En.SBranch) m42)),(8,(Pi i29))]→((zbk.j3 (zbk.l2 d_ l_ cv_ (zbk.j2 r_) k31) i29) m42)→K35 a s.w:=by
   intro m42 a s L h;unfold zbk.j3 at h;show K35 a s.w;refine H35 _ _ ?_;obtain ⟨h44,h⟩:=h;refine rg (sw 17 (zb (O 8 J) J J) L fun a s L=>?_);refine sw 18 (zbe (O 17 J) oI h44 J J) L fun a s L=>sw 8 (za (O 18 J) J J) L fun a s L=>en' ?_;exact hKL32 k31 a s (Nat.lt_succ_self _) ⟨m42,(i29+1),L.keep (.k 1 (.k 2 (.k 3 (.k 7 (.k 8 .nil))))),h⟩
  obtain ⟨k47,h⟩:=h;refine lpg (fun k48 a s=>∃(m45:(List SBranch)) (k46:Int),Has N0 54 s0 a s [(1,(Pd.rep (En.slice (En.slice En.SItem)) l_)),(2,(Pd.rep (En.int .u8) cv_)),(3,(Pd.ptr En.SDesc d_)),(7,(Pd.rep (En.slice En.SBranch) m45)),(8,(Pi i29)),(9,(Pd.rep (En.slice En.SBranch) r39)),(10,(Pi k46))]∧zbk.l3 r39 (zbk.j3 (zbk.l2 d_ l_ cv_ (zbk.j2 r_) k31) i29) k48 m45 k46) k47 ⟨m28,0,L.keep (.k 1 (.k 2 (.k 3 (.k 7 (.k 8 (.k 9 (.k 10 .nil))))))),h⟩ ?_;rintro k48 a s ⟨m45,k46,L,h⟩ KL49 hKL49;cases k48 with
  | zero=>exact h.elim
  | succ k48=>
  unfold zbk.l3 at h;refine wp_seq_k fun K50 H50=>wp_seq_k fun K51 H51=>rg (sw 26 (zb (O 10 J) J J) L fun a s L=>?_);refine sw 27 (zb (O 9 J) J J) L fun a s L=>sw 28 (zb2 (O 27 J) U79 J J) L fun a s L=>sw 29 (zbq (O 26 J) (O 28 J) J J) L fun a s L=>en' (H51 _ _ ?_);refine cnd L J (fun hb_=>?_) (fun hb_=>?_)
  ·replace h:=h.1 hb_;refine wp_skip ?_;show K50 a s.w;refine H50 _ _ (wp_seq_k fun K52 H52=>?_);refine wp_block ?_;obtain ⟨e53,h54,r55,h56,h⟩:=h;refine rg (sw 32 (zb (O 7 J) J J) L fun a s L=>?_);refine sw 33 (zb (O 9 J) J J) L fun a s L=>sw 34 (zb (O 10 J) J J) L fun a s L=>sw 35 (zbv (O 33 J) (O 34 J) h54 U79 zhh J J) L fun a s L=>sw 36 (zc3 (off:=0) (O 35 J) U82 J (zk (zh _ _)) J zdj J J) L fun a s L=>sw 37 (zl zdj (O 36 J) J J) L fun a s L=>sw 38 (zt ((zi3 h56).frz) (xs:=[.tmp 32,.tmp 37,.const (.int .i64 1)]) (.cons (O 32 J) (.cons (O 37 J) (.cons oI .nil))) J J) L fun a s L=>sw 7 (za (O 38 J) J J) L fun a s L=>en' (H52 _ _ ?_);obtain ⟨h57,h⟩:=h;refine rg (sw 30 (zb (O 10 J) J J) L fun a s L=>?_);refine sw 31 (zbe (O 30 J) oI h57 J J) L fun a s L=>sw 10 (za (O 31 J) J J) L fun a s L=>en' ?_;exact hKL49 k48 a s (Nat.lt_succ_self _) ⟨r55,(k46+1),L.keep (.k 1 (.k 2 (.k 3 (.k 7 (.k 8 (.k 9 (.k 10 .nil))))))),h⟩
  ·replace h:=h.2 hb_;refine wp_exit ?_;exact J43 m45 a s (L.keep (.k 1 (.k 2 (.k 3 (.k 7 (.k 8 .nil)))))) h
 ·replace h:=h.2 hb_;refine wp_exit ?_;exact J6 m28 a s (L.keep (.k 7 .nil)) h
theorem zph {d_:SDesc} {l_:(List (List SItem))} {r_:Bool} (h:zdd d_ l_ r_):Fn Tryz.prog 22 [(Pd.rep En.SDesc d_),(Pd.rep (En.slice (En.slice En.SItem)) l_)] (Rq (Pd.rep En.bool r_)):=by
 unfold zdd at h;refine zbr Tryz.func22 J Tryz.ntmps22 (by rfl) (by simp) fun s0 a L=>?_;refine wp_seq_k fun K1 H1=>rg (sw 2 (zcy (O 0 J) J J) L fun a s L=>?_);refine sw 4 (za o_b J J) L fun a s L=>en' (H1 _ _ ?_);refine wp_seq_k fun K2 H2=>wp_seq_k fun K3 H3=>rg (sw 5 (za oI J J) L fun a s L=>?_);refine en' (H3 _ _ ?_);refine wp_block ?_;have J4:∀(a:Act) (s:St),Has N0 19 s0 a s []→((zdd.j1 r_))→K2 a s.w:=by
  intro a s L h;unfold zdd.j1 at h;show K2 a s.w;refine H2 _ _ (wp_seq_k fun K5 H5=>?_);refine rg (sw 4 (za o_b J J) L fun a s L=>?_);refine en' (H5 _ _ ?_);subst h;exact wp_ret (zdr J L J)
 obtain ⟨k7,h⟩:=h;refine lpg (fun k8 a s=>∃(i6:Int),Has N0 19 s0 a s [(1,(Pd.rep (En.slice (En.slice En.SItem)) l_)),(2,(Pd.ptr En.SDesc d_)),(5,(Pi i6))]∧zdd.l1 d_ l_ r_ (zdd.j1 r_) k8 i6) k7 ⟨0,L.keep (.k 1 (.k 2 (.k 5 .nil))),h⟩ ?_;rintro k8 a s ⟨i6,L,h⟩ KL9 hKL9;cases k8 with
 | zero=>exact h.elim
 | succ k8=>
 unfold zdd.l1 at h;refine wp_seq_k fun K10 H10=>wp_seq_k fun K11 H11=>rg (sw 6 (zb (O 5 J) J J) L fun a s L=>?_);refine sw 7 (zb (O 1 J) J J) L fun a s L=>sw 8 (zb2 (O 7 J) U25 J J) L fun a s L=>sw 9 (zbq (O 6 J) (O 8 J) J J) L fun a s L=>en' (H11 _ _ ?_);refine cnd L J (fun hb_=>?_) (fun hb_=>?_)
 ·replace h:=h.1 hb_;refine wp_skip ?_;show K10 a s.w;refine H10 _ _ (wp_seq_k fun K12 H12=>?_);refine wp_block (wp_seq_k fun K13 H13=>?_);obtain ⟨e14,h15,r16,h17,h⟩:=h;refine rda zbp 7 [(Pd.rep En.SDesc d_),(Pd.rep (En.slice (En.slice En.SItem)) l_),(Pi i6),(Pd.ptr (En.slice En.SItem) e14),(Pd.rep (En.slice En.SItem) e14),(Pi r16),(Pd.rep En.bool (decide (0<r16)))] L (by kernel_rfl) J J ?_ ?_
  ·refine zm.cons (zl zey (O 2 J) J J) ?_;refine zm.cons (zb (O 1 J) J J) (zm.cons (zb (O 5 J) J J) ?_);refine zm.cons (zbv (O 13 J) (O 14 J) h15 U25 zdj J J) (zm.cons (zl zdj (O 15 J) J J) ?_);refine zm.cons (zt (zpl h17) (xs:=[.tmp 12,.tmp 16]) (.cons (O 12 J) (.cons (O 16 J) .nil)) J J) (zm.cons (zhu (O 17 J) oI J J) ?_);exact zm.nil
  intro a s _ L;refine en' (H13 _ _ ?_);refine cnd L J (fun hb_=>?_) (fun hb_=>?_)
  ·replace h:=h.1 hb_;refine wp_seq_k fun K18 H18=>rg (sw 4 (za o_b J J) L fun a s L=>?_);refine en' (H18 _ _ ?_);subst h;exact wp_ret (zdr J L J)
  ·replace h:=h.2 hb_;refine wp_skip ?_;show K12 a s.w;refine H12 _ _ ?_;obtain ⟨h19,h⟩:=h;refine rg (sw 10 (zb (O 5 J) J J) L fun a s L=>?_);refine sw 11 (zbe (O 10 J) oI h19 J J) L fun a s L=>sw 5 (za (O 11 J) J J) L fun a s L=>en' ?_;exact hKL9 k8 a s (Nat.lt_succ_self _) ⟨(i6+1),L.keep (.k 1 (.k 2 (.k 5 .nil))),h⟩
 ·replace h:=h.2 hb_;refine wp_exit ?_;exact J4 a s (L.keep .nil) h
theorem ze9 {d_:SDesc} {l_:(List (List SItem))} {r_:(List Cl)} (h:zbt d_ l_ r_):Fn Tryz.prog 28 [(Pd.rep En.SDesc d_),(Pd.rep (En.slice (En.slice En.SItem)) l_)] (Ro En.cls 51 r_):=by
 unfold zbt at h;refine zbr Tryz.func28 J Tryz.ntmps28 (by rfl) (by simp) fun s0 a L=>?_;refine wp_seq_k fun K1 H1=>rg (sw 2 (zcy (O 0 J) J J) L fun a s L=>?_);refine sw 4 (za (zca (E:=En.cls) (N:=s0.w.heap.size) (te:=51)) J J) L fun a s L=>en' (H1 _ _ ?_);refine wp_seq_k fun K2 H2=>rg (sw 5 (za (zca (E:=En.cls) (N:=s0.w.heap.size) (te:=51)) J J) L fun a s L=>?_);refine en' (H2 _ _ ?_);refine wp_seq_k fun K3 H3=>wp_seq_k fun K4 H4=>rg (sw 6 (za oI J J) L fun a s L=>?_);refine en' (H4 _ _ ?_);refine wp_block ?_;have J7:∀(list5:(List Cl)) (og6:Option Nat) (a:Act) (s:St),Has N0 22 s0 a s [(5,(Pd.row En.cls s0.w.heap.size 51 og6 list5))]→((zbt.j1 r_) list5)→K3 a s.w:=by
  intro list5 og6 a s L h;unfold zbt.j1 at h;show K3 a s.w;refine H3 _ _ (wp_seq_k fun K8 H8=>?_);refine rg (sw 21 (zb (O 5 J) J J) L fun a s L=>?_);refine sw 4 (za (O 21 J) J J) L fun a s L=>en' (H8 _ _ ?_);subst h;exact wp_ret (zgd J L J)
 obtain ⟨k12,h⟩:=h;refine lpg (fun k13 a s=>∃(list9:(List Cl)) (i11:Int) (og10:Option Nat),Has N0 22 s0 a s [(1,(Pd.rep (En.slice (En.slice En.SItem)) l_)),(2,(Pd.ptr En.SDesc d_)),(5,(Pd.row En.cls s0.w.heap.size 51 og10 list9)),(6,(Pi i11))]∧zbt.l1 d_ l_ (zbt.j1 r_) k13 list9 i11) k12 ⟨([]:(List Cl)),0,none,L.keep (.k 1 (.k 2 (.cons (t:=5) J (fun _ _ h_=>h_) (.k 6 .nil)))),h⟩ ?_;rintro k13 a s ⟨list9,i11,og10,L,h⟩ KL14 hKL14;cases k13 with
 | zero=>exact h.elim
 | succ k13=>
 unfold zbt.l1 at h;refine wp_seq_k fun K15 H15=>wp_seq_k fun K16 H16=>rg (sw 7 (zb (O 6 J) J J) L fun a s L=>?_);refine sw 8 (zb (O 1 J) J J) L fun a s L=>sw 9 (zb2 (O 8 J) U25 J J) L fun a s L=>sw 10 (zbq (O 7 J) (O 9 J) J J) L fun a s L=>en' (H16 _ _ ?_);refine cnd L J (fun hb_=>?_) (fun hb_=>?_)
 ·replace h:=h.1 hb_;refine wp_skip ?_;show K15 a s.w;refine H15 _ _ (wp_seq_k fun K17 H17=>?_);refine wp_block ?_;obtain ⟨e18,h19,r20,h21,h22,h⟩:=h;refine rda zbp 7 [(Pd.row En.cls s0.w.heap.size 51 og10 list9),(Pd.rep En.SDesc d_),(Pd.rep (En.slice (En.slice En.SItem)) l_),(Pi i11),(Pd.ptr (En.slice En.SItem) e18),(Pd.rep (En.slice En.SItem) e18),(Pd.rep (En.slice En.cls) r20)] L (by kernel_rfl) J J ?_ ?_
  ·refine zm.cons (zb (O 5 J) J J) ?_;refine zm.cons (zl zey (O 2 J) J J) (zm.cons (zb (O 1 J) J J) ?_);refine zm.cons (zb (O 6 J) J J) (zm.cons (zbv (O 15 J) (O 16 J) h19 U25 zdj J J) ?_);refine zm.cons (zl zdj (O 17 J) J J) (zm.cons (zt ((zme h21).frz) (xs:=[.tmp 14,.tmp 18]) (.cons (O 14 J) (.cons (O 18 J) .nil)) J J) ?_);exact zm.nil
  intro a s _ L;refine st_appB (L':=[(1,(Pd.rep (En.slice (En.slice En.SItem)) l_)),(2,(Pd.ptr En.SDesc d_)),(6,(Pi i11))]) 20 32 L (O 13 J) (O 19 J) U36 zb8 (by decide) ⟨_,J,by decide⟩ h22 J J J J (.k 1 (.k 2 (.k 6 .nil))) fun a s og23 hg_ L=>?_;refine sw 5 (za (O 20 J) J J) L fun a s L=>en' (H17 _ _ ?_);obtain ⟨h24,h⟩:=h;refine rg (sw 11 (zb (O 6 J) J J) L fun a s L=>?_);refine sw 12 (zbe (O 11 J) oI h24 J J) L fun a s L=>sw 6 (za (O 12 J) J J) L fun a s L=>en' ?_;exact hKL14 k13 a s (Nat.lt_succ_self _) ⟨(list9++r20),(i11+1),og23,L.keep (.k 1 (.k 2 (.cons (t:=5) J (fun _ _ h_=>h_) (.k 6 .nil)))),h⟩
 ·replace h:=h.2 hb_;refine wp_exit ?_;exact J7 list9 og10 a s (L.keep (.cons (t:=5) J (fun _ _ h_=>h_) .nil)) h
theorem zkv {l_:(List Cl)} {r_:(List Cl)} (h:zbh l_ r_):Fn Tryz.prog 30 [(Pd.rep (En.slice En.cls) l_)] (Ro En.cls 51 r_):=by
 unfold zbh at h;refine zbr Tryz.func30 J Tryz.ntmps30 (by rfl) (by simp) fun s0 a L=>?_;refine wp_seq_k fun K1 H1=>rg (sw 2 (za (zca (E:=En.cls) (N:=s0.w.heap.size) (te:=51)) J J) L fun a s L=>?_);refine en' (H1 _ _ ?_);refine wp_seq_k fun K2 H2=>rg (sw 3 (za (zca (E:=En.cls) (N:=s0.w.heap.size) (te:=51)) J J) L fun a s L=>?_);refine en' (H2 _ _ ?_);refine wp_seq_k fun K3 H3=>wp_seq_k fun K4 H4=>rg (sw 4 (za oI J J) L fun a s L=>?_);refine en' (H4 _ _ ?_);refine wp_block ?_;have J7:∀(out5:(List Cl)) (og6:Option Nat) (a:Act) (s:St),Has N0 42 s0 a s [(3,(Pd.row En.cls s0.w.heap.size 51 og6 out5))]→((zbh.j1 r_) out5)→K3 a s.w:=by
  intro out5 og6 a s L h;unfold zbh.j1 at h;show K3 a s.w;refine H3 _ _ (wp_seq_k fun K8 H8=>?_);refine rg (sw 41 (zb (O 3 J) J J) L fun a s L=>?_);refine sw 2 (za (O 41 J) J J) L fun a s L=>en' (H8 _ _ ?_);subst h;exact wp_ret (zgd J L J)
 obtain ⟨k12,h⟩:=h;refine lpg (fun k13 a s=>∃(out9:(List Cl)) (i11:Int) (og10:Option Nat),Has N0 42 s0 a s [(0,(Pd.rep (En.slice En.cls) l_)),(3,(Pd.row En.cls s0.w.heap.size 51 og10 out9)),(4,(Pi i11))]∧zbh.l1 l_ (zbh.j1 r_) k13 out9 i11) k12 ⟨([]:(List Cl)),0,none,L.keep (.k 0 (.cons (t:=3) J (fun _ _ h_=>h_) (.k 4 .nil))),h⟩ ?_;rintro k13 a s ⟨out9,i11,og10,L,h⟩ KL14 hKL14;cases k13 with
 | zero=>exact h.elim
 | succ k13=>
 unfold zbh.l1 at h;refine wp_seq_k fun K15 H15=>wp_seq_k fun K16 H16=>rg (sw 7 (zb (O 4 J) J J) L fun a s L=>?_);refine sw 8 (zb (O 0 J) J J) L fun a s L=>sw 9 (zb2 (O 8 J) U36 J J) L fun a s L=>sw 10 (zbq (O 7 J) (O 9 J) J J) L fun a s L=>en' (H16 _ _ ?_);refine cnd L J (fun hb_=>?_) (fun hb_=>?_)
 ·replace h:=h.1 hb_;refine wp_skip ?_;show K15 a s.w;refine H15 _ _ (wp_seq_k fun K17 H17=>?_);refine wp_block (wp_seq_k fun K18 H18=>?_);refine rg (sw 5 (za o_b J J) L fun a s L=>?_);refine en' (H18 _ _ ?_);refine wp_seq_k fun K19 H19=>wp_seq_k fun K20 H20=>rg (sw 6 (za oI J J) L fun a s L=>?_);refine en' (H20 _ _ ?_);refine wp_block ?_;have J22:∀(met21:Bool) (a:Act) (s:St),Has N0 42 s0 a s [(0,(Pd.rep (En.slice En.cls) l_)),(3,(Pd.row En.cls s0.w.heap.size 51 og10 out9)),(4,(Pi i11)),(5,(Pd.rep En.bool met21))]→((zbh.j2 (zbh.l1 l_ (zbh.j1 r_) k13) l_ out9 i11) met21)→K19 a s.w:=by
   intro met21 a s L h;unfold zbh.j2 at h;show K19 a s.w;refine H19 _ _ (wp_seq_k fun K23 H23=>?_);refine rg (sw 32 (zb (O 5 J) J J) L fun a s L=>?_);refine sw 33 (zf2 (O 32 J) J J) L fun a s L=>en' (H23 _ _ ?_);refine cnd L J (fun hb_=>?_) (fun hb_=>?_)
   ·obtain ⟨e24,h25,h26,h⟩:=h.1 hb_;refine rg (sw 34 (zb (O 3 J) J J) L fun a s L=>?_);refine sw 35 (zb (O 0 J) J J) L fun a s L=>sw 36 (zb (O 4 J) J J) L fun a s L=>sw 37 (zbv (O 35 J) (O 36 J) h25 U36 zb8 J J) L fun a s L=>sw 38 (zl zb8 (O 37 J) J J) L fun a s L=>sw 39 (zcz (xs:=[.tmp 38]) (.cons (O 38 J) .nil) U36 zb8 J J (by decide) J J) L fun a s L=>zck (L':=[(0,(Pd.rep (En.slice En.cls) l_)),(4,(Pi i11))]) 40 L (O 34 J) (O 39 J) U36 zb8 h26 J J J J (.k 0 (.k 4 .nil)) fun a s og27 hg_ L=>?_;refine sw 3 (za (O 40 J) J J) L fun a s L=>en' (H17 _ _ ?_);obtain ⟨h28,h⟩:=h;refine rg (sw 11 (zb (O 4 J) J J) L fun a s L=>?_);refine sw 12 (zbe (O 11 J) oI h28 J J) L fun a s L=>sw 4 (za (O 12 J) J J) L fun a s L=>en' ?_;exact hKL14 k13 a s (Nat.lt_succ_self _) ⟨(out9++[e24]),(i11+1),og27,L.keep (.k 0 (.cons (t:=3) J (fun _ _ h_=>h_) (.k 4 .nil))),h⟩
   ·replace h:=h.2 hb_;refine wp_skip ?_;show K17 a s.w;refine H17 _ _ ?_;obtain ⟨h29,h⟩:=h;refine rg (sw 11 (zb (O 4 J) J J) L fun a s L=>?_);refine sw 12 (zbe (O 11 J) oI h29 J J) L fun a s L=>sw 4 (za (O 12 J) J J) L fun a s L=>en' ?_;exact hKL14 k13 a s (Nat.lt_succ_self _) ⟨out9,(i11+1),og10,L.keep (.k 0 (.cons (t:=3) J (fun _ _ h_=>h_) (.k 4 .nil))),h⟩
  obtain ⟨k32,h⟩:=h;refine lpg (fun k33 a s=>∃(met30:Bool) (k31:Int),Has N0 42 s0 a s [(0,(Pd.rep (En.slice En.cls) l_)),(3,(Pd.row En.cls s0.w.heap.size 51 og10 out9)),(4,(Pi i11)),(5,(Pd.rep En.bool met30)),(6,(Pi k31))]∧zbh.l2 l_ out9 i11 (zbh.j2 (zbh.l1 l_ (zbh.j1 r_) k13) l_ out9 i11) k33 met30 k31) k32 ⟨false,0,L.keep (.k 0 (.cons (t:=3) J (fun _ _ h_=>h_) (.k 4 (.k 5 (.k 6 .nil))))),h⟩ ?_;rintro k33 a s ⟨met30,k31,L,h⟩ KL34 hKL34;cases k33 with
  | zero=>exact h.elim
  | succ k33=>
  unfold zbh.l2 at h;refine wp_seq_k fun K35 H35=>wp_seq_k fun K36 H36=>rg (sw 13 (zb (O 6 J) J J) L fun a s L=>?_);refine sw 14 (zb (O 3 J) J J) L fun a s L=>sw 15 (t_leno (O 14 J) U36 J J) L fun a s L=>sw 16 (zbq (O 13 J) (O 15 J) J J) L fun a s L=>sw 17 (zb (O 16 J) J J) L fun a s L=>sw 18 (z7 J J J (fun hc_=>zb (O 5 J) J J)) L fun a s L=>sw 19 (z7 J J J (fun hc_=>zf2 (o_w hc_ 18 J) J J)) L fun a s L=>sw 20 (zcc (O 17 J) (fun hc2_=>(o_w hc2_ 19 J)) J J) L fun a s L=>en' (H36 _ _ ?_);refine cnd L J (fun hb_=>?_) (fun hb_=>?_)
  ·replace h:=h.1 hb_;refine wp_skip ?_;show K35 a s.w;refine H35 _ _ (wp_seq_k fun K37 H37=>?_);refine wp_block ?_;obtain ⟨e38,h39,e40,h41,h⟩:=h;refine rda zbp 9 [(Pd.row En.cls s0.w.heap.size 51 og10 out9),(Pi k31),(Pd.optr En.cls s0.w.heap.size og10 ((k31:Int).toNat*En.cls.sz) e38),(Pd.rep En.cls e38),(Pd.rep (En.slice En.cls) l_),(Pi i11),(Pd.ptr En.cls e40),(Pd.rep En.cls e40),(Pd.rep En.bool (e38==e40))] L (by kernel_rfl) J J ?_ ?_
   ·refine zm.cons (zb (O 3 J) J J) ?_;refine zm.cons (zb (O 6 J) J J) (zm.cons (zc0 (O 23 J) (O 24 J) h39 U36 zb8 J J) ?_);refine zm.cons (zo zb8 (O 25 J) J J) (zm.cons (zb (O 0 J) J J) ?_);refine zm.cons (zb (O 4 J) J J) (zm.cons (zbv (O 27 J) (O 28 J) h41 U36 zb8 J J) ?_);refine zm.cons (zl zb8 (O 29 J) J J) (zm.cons (t_eqv eq51 (O 26 J) (O 30 J) J J) ?_);exact zm.nil
   intro a s _ L;refine sw 5 (za (O 31 J) J J) L fun a s L=>en' (H37 _ _ ?_);obtain ⟨h42,h⟩:=h;refine rg (sw 21 (zb (O 6 J) J J) L fun a s L=>?_);refine sw 22 (zbe (O 21 J) oI h42 J J) L fun a s L=>sw 6 (za (O 22 J) J J) L fun a s L=>en' ?_;exact hKL34 k33 a s (Nat.lt_succ_self _) ⟨(e38==e40),(k31+1),L.keep (.k 0 (.cons (t:=3) J (fun _ _ h_=>h_) (.k 4 (.k 5 (.k 6 .nil))))),h⟩
  ·replace h:=h.2 hb_;refine wp_exit ?_;exact J22 met30 a s (L.keep (.k 0 (.cons (t:=3) J (fun _ _ h_=>h_) (.k 4 (.k 5 .nil))))) h
 ·replace h:=h.2 hb_;refine wp_exit ?_;exact J7 out9 og10 a s (L.keep (.cons (t:=3) J (fun _ _ h_=>h_) .nil)) h
theorem zn6 {d_:SDesc} {l_:(List (List SItem))} {r_:(List Int)} (h:zif d_ l_ r_):Fn Tryz.prog 25 [(Pd.rep En.SDesc d_),(Pd.rep (En.slice (En.slice En.SItem)) l_)] (Ro (En.int .u8) 5 r_):=by
 unfold zif at h;refine zbr Tryz.func25 J Tryz.ntmps25 (by rfl) (by simp) fun s0 a L=>?_;refine wp_seq_k fun K1 H1=>rg (sw 2 (zcy (O 0 J) J J) L fun a s L=>?_);refine sw 4 (za (zca (E:=(En.int .u8)) (N:=s0.w.heap.size) (te:=5)) J J) L fun a s L=>en' (H1 _ _ ?_);refine wp_seq_k fun K2 H2=>?_;obtain ⟨r3,h4,r5,h6,r7,h8,h⟩:=h;refine rg (sw 5 (zl zey (O 2 J) J J) L fun a s L=>?_);refine sw 6 (zb (O 1 J) J J) L fun a s L=>sw 7 (zt ((ze9 h4).frz) (xs:=[.tmp 5,.tmp 6]) (.cons (O 5 J) (.cons (O 6 J) .nil)) J J) L fun a s L=>sw 8 (zt ((zkv h6).frz) (xs:=[.tmp 7]) (.cons (O 7 J) .nil) J J) L fun a s L=>zes 9 L (zoh h8) (xs:=[.tmp 8]) (.cons (O 8 J) .nil) J J J J fun a s og9 hg_ L=>?_;refine sw 4 (za (O 9 J) J J) L fun a s L=>en' (H2 _ _ ?_);subst h;exact wp_ret (zgd J L J)
theorem zn8 {d_:SDesc} {w_:(List Int)} {r_:(List (List SItem))} (h:zcu d_ w_ r_):Fn Tryz.prog 32 [(Pd.rep En.SDesc d_),(Pd.rep (En.slice (En.int .u8)) w_)] (Ro (En.slice En.SItem) 47 r_):=by
 unfold zcu at h;refine zbr Tryz.func32 J Tryz.ntmps32 (by rfl) (by simp) fun s0 a L=>?_;refine wp_seq_k fun K1 H1=>rg (sw 2 (zcy (O 0 J) J J) L fun a s L=>?_);refine sw 4 (za (zca (E:=(En.slice En.SItem)) (N:=s0.w.heap.size) (te:=47)) J J) L fun a s L=>en' (H1 _ _ ?_);refine wp_seq_k fun K2 H2=>?_;obtain ⟨r3,h4,h⟩:=h;refine rg (sw 7 (zl zey (O 2 J) J J) L fun a s L=>?_);refine zes 8 L (zj8 h4) (xs:=[.tmp 7]) (.cons (O 7 J) .nil) J J J J fun a s og5 hg_ L=>?_;refine sw 5 (za (O 8 J) J J) L fun a s L=>en' (H2 _ _ ?_);refine wp_seq_k fun K6 H6=>wp_seq_k fun K7 H7=>rg (sw 6 (za oI J J) L fun a s L=>?_);refine en' (H7 _ _ ?_);refine wp_block ?_;have J10:∀(l8:(List (List SItem))) (og9:Option Nat) (a:Act) (s:St),Has N0 23 s0 a s [(5,(Pd.row (En.slice En.SItem) s0.w.heap.size 47 og9 l8))]→((zcu.j1 r_) l8)→K6 a s.w:=by
  intro l8 og9 a s L h;unfold zcu.j1 at h;show K6 a s.w;refine H6 _ _ (wp_seq_k fun K11 H11=>?_);refine rg (sw 22 (zb (O 5 J) J J) L fun a s L=>?_);refine sw 4 (za (O 22 J) J J) L fun a s L=>en' (H11 _ _ ?_);subst h;exact wp_ret (zgd J L J)
 obtain ⟨k15,h⟩:=h;refine lpg (fun k16 a s=>∃(l12:(List (List SItem))) (i14:Int) (og13:Option Nat),Has N0 23 s0 a s [(1,(Pd.rep (En.slice (En.int .u8)) w_)),(2,(Pd.ptr En.SDesc d_)),(5,(Pd.row (En.slice En.SItem) s0.w.heap.size 47 og13 l12)),(6,(Pi i14))]∧zcu.l1 d_ w_ (zcu.j1 r_) k16 l12 i14) k15 ⟨r3,0,og5,L.keep (.k 1 (.k 2 (.cons (t:=5) J (fun _ _ h_=>h_) (.k 6 .nil)))),h⟩ ?_;rintro k16 a s ⟨l12,i14,og13,L,h⟩ KL17 hKL17;cases k16 with
 | zero=>exact h.elim
 | succ k16=>
 unfold zcu.l1 at h;refine wp_seq_k fun K18 H18=>wp_seq_k fun K19 H19=>rg (sw 9 (zb (O 6 J) J J) L fun a s L=>?_);refine sw 10 (zb (O 1 J) J J) L fun a s L=>sw 11 (zb2 (O 10 J) U26 J J) L fun a s L=>sw 12 (zbq (O 9 J) (O 11 J) J J) L fun a s L=>en' (H19 _ _ ?_);refine cnd L J (fun hb_=>?_) (fun hb_=>?_)
 ·replace h:=h.1 hb_;refine wp_skip ?_;show K18 a s.w;refine H18 _ _ (wp_seq_k fun K20 H20=>?_);refine wp_block ?_;obtain ⟨s22,h21,L⟩:=L.freeze (L':=[(1,(Pd.rep (En.slice (En.int .u8)) w_)),(2,(Pd.ptr En.SDesc d_)),(6,(Pi i14))]) 5 rfl (.cons (t:=1) rfl nE (.cons (t:=2) rfl nE (.cons (t:=6) rfl nE .nil)));rw [← h21];clear h21;generalize s22=s at *;obtain ⟨e23,h24,r25,h26,h⟩:=h;refine rda zbp 6 [(Pd.rep En.SDesc d_),(Pd.rep (En.slice (En.slice En.SItem)) l12),(Pd.rep (En.slice (En.int .u8)) w_),(Pi i14),(Pd.ptr (En.int .u8) e23),(Pd.rep (En.int .u8) e23)] L (by kernel_rfl) J J ?_ ?_
  ·refine zm.cons (zl zey (O 2 J) J J) ?_;refine zm.cons (zb (O 5 J) J J) (zm.cons (zb (O 1 J) J J) ?_);refine zm.cons (zb (O 6 J) J J) (zm.cons (zbv (O 17 J) (O 18 J) h24 U26 ty5 J J) ?_);refine zm.cons (zl ty5 (O 19 J) J J) ?_;exact zm.nil
  intro a s _ L;refine zes 21 L (zm7 h26) (xs:=[.tmp 15,.tmp 16,.tmp 20]) (.cons (O 15 J) (.cons (O 16 J) (.cons (O 20 J) .nil))) J J J J fun a s og27 hg_ L=>?_;refine sw 5 (za (O 21 J) J J) L fun a s L=>en' (H20 _ _ ?_);obtain ⟨h28,h⟩:=h;refine rg (sw 13 (zb (O 6 J) J J) L fun a s L=>?_);refine sw 14 (zbe (O 13 J) oI h28 J J) L fun a s L=>sw 6 (za (O 14 J) J J) L fun a s L=>en' ?_;exact hKL17 k16 a s (Nat.lt_succ_self _) ⟨r25,(i14+1),og27,L.keep (.k 1 (.k 2 (.cons (t:=5) J (fun _ _ h_=>h_) (.k 6 .nil)))),h⟩
 ·replace h:=h.2 hb_;refine wp_exit ?_;exact J10 l12 og13 a s (L.keep (.cons (t:=5) J (fun _ _ h_=>h_) .nil)) h
theorem law16_SetsTell_ok {d_:SDesc} {l_:(List (List SItem))} {cv_:Int} {w_:(List Int)} {r_:Bool} (h:zhq d_ l_ cv_ w_ r_):Fn Tryz.prog 3 [(Pd.rep En.SDesc d_),(Pd.rep (En.slice (En.slice En.SItem)) l_),(Pd.rep (En.int .u8) cv_),(Pd.rep (En.slice (En.int .u8)) w_)] (Rq (Pd.rep En.bool r_)):=by
 unfold zhq at h;refine zbr Tryz.func3 J Tryz.ntmps3 (by rfl) (by simp) fun s0 a L=>?_;refine wp_seq_k fun K1 H1=>rg (sw 4 (zcy (O 0 J) J J) L fun a s L=>?_);refine sw 8 (za o_b J J) L fun a s L=>en' (H1 _ _ ?_);refine wp_seq_k fun K2 H2=>wp_seq_k fun K3 H3=>?_;obtain ⟨r4,h5,r6,h7,r8,h9,r10,h11,b12,h13,h⟩:=h;refine rg (sw 9 (zt (zkb h5) (xs:=[]) .nil J J) L fun a s L=>?_);refine sw 10 (zf2 (O 9 J) J J) L fun a s L=>sw 11 (zb (O 10 J) J J) L fun a s L=>sw 12 (z7 J J J (fun hc_=>zl zey (O 4 J) J J)) L fun a s L=>sw 13 (z7 J J J (fun hc_=>zt (ref04_Few_ok (h7 hc_)) (xs:=[.tmp 12]) (.cons (o_w hc_ 12 J) .nil) J J)) L fun a s L=>sw 14 (z7 J J J (fun hc_=>zf2 (o_w hc_ 13 J) J J)) L fun a s L=>sw 15 (t_or (O 11 J) (fun hc2_=>(o_w hc2_ 14 J)) J J) L fun a s L=>sw 16 (zb (O 15 J) J J) L fun a s L=>sw 17 (z7 J J J (fun hc_=>zl zey (O 4 J) J J)) L fun a s L=>sw 18 (z7 J J J (fun hc_=>zt (zod (h9 hc_)) (xs:=[.tmp 17]) (.cons (o_w hc_ 17 J) .nil) J J)) L fun a s L=>?_;refine sw 19 (z7 J J J (fun hc_=>zf2 (o_w hc_ 18 J) J J)) L fun a s L=>sw 20 (t_or (O 16 J) (fun hc2_=>(o_w hc2_ 19 J)) J J) L fun a s L=>sw 21 (zb (O 20 J) J J) L fun a s L=>sw 22 (z7 J J J (fun hc_=>zl zey (O 4 J) J J)) L fun a s L=>sw 23 (z7 J J J (fun hc_=>zb (O 1 J) J J)) L fun a s L=>sw 24 (z7 J J J (fun hc_=>zt (zpf (h11 hc_)) (xs:=[.tmp 22,.tmp 23]) (.cons (o_w hc_ 22 J) (.cons (o_w hc_ 23 J) .nil)) J J)) L fun a s L=>sw 25 (z7 J J J (fun hc_=>zf2 (o_w hc_ 24 J) J J)) L fun a s L=>sw 26 (t_or (O 21 J) (fun hc2_=>(o_w hc2_ 25 J)) J J) L fun a s L=>sw 27 (zb (O 26 J) J J) L fun a s L=>?_
 refine sw 28 (z7 J J J (fun hc_=>zb (O 3 J) J J)) L fun a s L=>sw 29 (z7 J J J (fun hc_=>zb2 (o_w hc_ 28 J) U26 J J)) L fun a s L=>sw 30 (z7 J J J (fun hc_=>zhu (o_w hc_ 29 J) oI J J)) L fun a s L=>sw 31 (h13 ▸ (t_or (O 27 J) (fun hc2_=>(o_w hc2_ 30 J)) J J)) L fun a s L=>en' (H3 _ _ ?_);refine cnd L J (fun hb_=>?_) (fun hb_=>?_)
 ·replace h:=h.1 hb_;refine wp_seq_k fun K14 H14=>?_;obtain ⟨r15,h16,h⟩:=h;refine rg (sw 32 (zt (zkb h16) (xs:=[]) .nil J J) L fun a s L=>?_);refine sw 8 (za (O 32 J) J J) L fun a s L=>en' (H14 _ _ ?_);subst h;exact wp_ret (zdr J L J)
 ·replace h:=h.2 hb_;refine wp_skip ?_;show K2 a s.w;refine H2 _ _ (wp_seq_k fun K17 H17=>?_);obtain ⟨r18,h19,r20,h21,r22,h23,r24,h25,r26,h27,r28,h29,r30,h31,r32,h33,r34,h35,r36,h37,r38,h39,r40,h41,r42,h43,r44,h45,r46,h47,r48,h49,r50,h51,r52,h53,r54,h55,b56,h57,r58,h59,r60,h61,r62,h63,h⟩:=h;refine rda zbp 63 [(Pd.rep En.SDesc d_),(Pd.rep (En.slice (En.slice En.SItem)) r18),(Pd.rep En.SDesc d_),(Pd.rep (En.slice (En.slice En.SItem)) r20),(Pd.rep En.bool r22),(Pd.rep En.bool r22),(Pd.when ((r22)=true) (Pd.rep En.SDesc d_)),(Pd.when ((r22)=true) (Pd.rep (En.slice (En.slice En.SItem)) l_)),(Pd.when ((r22)=true) (Pd.rep (En.int .u8) cv_)),(Pd.when ((r22)=true) (Pd.rep (En.slice (En.slice En.SItem)) r24)),(Pd.when ((r22)=true) (Pd.rep En.SDesc d_)),(Pd.when ((r22)=true) (Pd.rep (En.slice (En.slice En.SItem)) l_)),(Pd.when ((r22)=true) (Pd.rep (En.int .u8) cv_)),(Pd.when ((r22)=true) (Pd.rep (En.slice (En.slice En.SItem)) r26)),(Pd.when ((r22)=true) (Pd.rep En.bool r28)),(Pd.rep En.bool (r22&&r28)),(Pd.rep En.bool (r22&&r28)),(Pd.when (((r22&&r28))=true) (Pd.rep En.SDesc d_)),(Pd.when (((r22&&r28))=true) (Pd.rep (En.slice (En.slice En.SItem)) l_)),(Pd.when (((r22&&r28))=true) (Pd.rep En.bool r30)),(Pd.when (((r22&&r28))=true) (Pd.rep En.SDesc d_)),(Pd.when (((r22&&r28))=true) (Pd.rep (En.slice (En.slice En.SItem)) l_)),(Pd.when (((r22&&r28))=true) (Pd.rep En.bool r32)),(Pd.when (((r22&&r28))=true) (Pd.rep En.bool (r30==r32))),(Pd.rep En.bool ((r22&&r28)&&(r30==r32))),(Pd.rep En.bool ((r22&&r28)&&(r30==r32))),(Pd.when ((((r22&&r28)&&(r30==r32)))=true) (Pd.rep En.SDesc d_)),(Pd.when ((((r22&&r28)&&(r30==r32)))=true) (Pd.rep (En.slice (En.slice En.SItem)) l_)),(Pd.when ((((r22&&r28)&&(r30==r32)))=true) (Pd.rep (En.slice (En.int .u8)) r34)),(Pd.when ((((r22&&r28)&&(r30==r32)))=true) (Pd.rep En.SDesc d_)),(Pd.when ((((r22&&r28)&&(r30==r32)))=true) (Pd.rep (En.slice (En.slice En.SItem)) l_)),(Pd.when ((((r22&&r28)&&(r30==r32)))=true) (Pd.rep (En.slice (En.int .u8)) r36)),(Pd.when ((((r22&&r28)&&(r30==r32)))=true) (Pd.rep En.bool r38)),(Pd.rep En.bool (((r22&&r28)&&(r30==r32))&&r38)),(Pd.rep En.bool (((r22&&r28)&&(r30==r32))&&r38)),(Pd.when (((((r22&&r28)&&(r30==r32))&&r38))=true) (Pd.rep En.SDesc d_)),(Pd.when (((((r22&&r28)&&(r30==r32))&&r38))=true) (Pd.rep (En.slice (En.slice En.SItem)) l_)),(Pd.when (((((r22&&r28)&&(r30==r32))&&r38))=true) (Pd.rep (En.slice En.cls) r40)),(Pd.when (((((r22&&r28)&&(r30==r32))&&r38))=true) (Pd.rep En.SDesc d_)),(Pd.when (((((r22&&r28)&&(r30==r32))&&r38))=true) (Pd.rep (En.slice (En.slice En.SItem)) l_)),(Pd.when (((((r22&&r28)&&(r30==r32))&&r38))=true) (Pd.rep (En.slice En.cls) r42)),(Pd.when (((((r22&&r28)&&(r30==r32))&&r38))=true) (Pd.rep En.bool r44)),(Pd.rep En.bool ((((r22&&r28)&&(r30==r32))&&r38)&&r44)),(Pd.rep En.bool ((((r22&&r28)&&(r30==r32))&&r38)&&r44)),(Pd.when ((((((r22&&r28)&&(r30==r32))&&r38)&&r44))=true) (Pd.rep En.SDesc d_)),(Pd.when ((((((r22&&r28)&&(r30==r32))&&r38)&&r44))=true) (Pd.rep (En.slice (En.slice En.SItem)) l_)),(Pd.when ((((((r22&&r28)&&(r30==r32))&&r38)&&r44))=true) (Pd.rep (En.slice En.cls) r46)),(Pd.when ((((((r22&&r28)&&(r30==r32))&&r38)&&r44))=true) (Pd.rep (En.slice En.cls) r48)),(Pd.when ((((((r22&&r28)&&(r30==r32))&&r38)&&r44))=true) (Pd.rep En.SDesc d_)),(Pd.when ((((((r22&&r28)&&(r30==r32))&&r38)&&r44))=true) (Pd.rep (En.slice (En.slice En.SItem)) l_)),(Pd.when ((((((r22&&r28)&&(r30==r32))&&r38)&&r44))=true) (Pd.rep (En.slice En.cls) r50)),(Pd.when ((((((r22&&r28)&&(r30==r32))&&r38)&&r44))=true) (Pd.rep (En.slice En.cls) r52)),(Pd.when ((((((r22&&r28)&&(r30==r32))&&r38)&&r44))=true) (Pd.rep En.bool r54)),(Pd.rep En.bool b56),(Pd.rep En.bool b56),(Pd.when ((b56)=true) (Pd.rep En.SDesc d_)),(Pd.when ((b56)=true) (Pd.rep (En.slice (En.int .u8)) w_)),(Pd.when ((b56)=true) (Pd.rep (En.slice (En.slice En.SItem)) r58)),(Pd.when ((b56)=true) (Pd.rep En.SDesc d_)),(Pd.when ((b56)=true) (Pd.rep (En.slice (En.int .u8)) w_)),(Pd.when ((b56)=true) (Pd.rep (En.slice (En.slice En.SItem)) r60)),(Pd.when ((b56)=true) (Pd.rep En.bool r62)),(Pd.rep En.bool (b56&&r62))] L (by kernel_rfl) J J ?_ ?_
  ·refine zm.cons (zl zey (O 4 J) J J) ?_;refine zm.cons (zt ((zgk h19).frz) (xs:=[.tmp 33]) (.cons (O 33 J) .nil) J J) (zm.cons (zl zey (O 4 J) J J) ?_);refine zm.cons (zt ((zj8 h21).frz) (xs:=[.tmp 35]) (.cons (O 35 J) .nil) J J) (zm.cons (zt (zgn h23) (xs:=[.tmp 34,.tmp 36]) (.cons (O 34 J) (.cons (O 36 J) .nil)) J J) ?_);refine zm.cons (zb (O 37 J) J J) (zm.cons (z7 J J J (fun hc_=>zl zey (O 4 J) J J)) ?_);refine zm.cons (z7 J J J (fun hc_=>zb (O 1 J) J J)) (zm.cons (z7 J J J (fun hc_=>zb (O 2 J) J J)) ?_);refine zm.cons (z7 J J J (fun hc_=>zt ((zjn (h25 hc_)).frz) (xs:=[.tmp 39,.tmp 40,.tmp 41]) (.cons (o_w hc_ 39 J) (.cons (o_w hc_ 40 J) (.cons (o_w hc_ 41 J) .nil))) J J)) (zm.cons (z7 J J J (fun hc_=>zl zey (O 4 J) J J)) ?_);refine zm.cons (z7 J J J (fun hc_=>zb (O 1 J) J J)) (zm.cons (z7 J J J (fun hc_=>zb (O 2 J) J J)) ?_);refine zm.cons (z7 J J J (fun hc_=>zt ((zm7 (h27 hc_)).frz) (xs:=[.tmp 43,.tmp 44,.tmp 45]) (.cons (o_w hc_ 43 J) (.cons (o_w hc_ 44 J) (.cons (o_w hc_ 45 J) .nil))) J J)) (zm.cons (z7 J J J (fun hc_=>zt (zgn (h29 hc_)) (xs:=[.tmp 42,.tmp 46]) (.cons (o_w hc_ 42 J) (.cons (o_w hc_ 46 J) .nil)) J J)) ?_);refine zm.cons (zcc (O 38 J) (fun hc2_=>(o_w hc2_ 47 J)) J J) (zm.cons (zb (O 48 J) J J) ?_);refine zm.cons (z7 J J J (fun hc_=>zl zey (O 4 J) J J)) (zm.cons (z7 J J J (fun hc_=>zb (O 1 J) J J)) ?_);refine zm.cons (z7 J J J (fun hc_=>zt (zf3 (h31 hc_)) (xs:=[.tmp 50,.tmp 51]) (.cons (o_w hc_ 50 J) (.cons (o_w hc_ 51 J) .nil)) J J)) (zm.cons (z7 J J J (fun hc_=>zl zey (O 4 J) J J)) ?_)
   refine zm.cons (z7 J J J (fun hc_=>zb (O 1 J) J J)) (zm.cons (z7 J J J (fun hc_=>zt (zph (h33 hc_)) (xs:=[.tmp 53,.tmp 54]) (.cons (o_w hc_ 53 J) (.cons (o_w hc_ 54 J) .nil)) J J)) ?_);refine zm.cons (z7 J J J (fun hc_=>t_eqb (o_w hc_ 52 J) (o_w hc_ 55 J) U4 J J)) (zm.cons (zcc (O 49 J) (fun hc2_=>(o_w hc2_ 56 J)) J J) ?_);refine zm.cons (zb (O 57 J) J J) (zm.cons (z7 J J J (fun hc_=>zl zey (O 4 J) J J)) ?_);refine zm.cons (z7 J J J (fun hc_=>zb (O 1 J) J J)) (zm.cons (z7 J J J (fun hc_=>zt ((zic (h35 hc_)).frz) (xs:=[.tmp 59,.tmp 60]) (.cons (o_w hc_ 59 J) (.cons (o_w hc_ 60 J) .nil)) J J)) ?_);refine zm.cons (z7 J J J (fun hc_=>zl zey (O 4 J) J J)) (zm.cons (z7 J J J (fun hc_=>zb (O 1 J) J J)) ?_);refine zm.cons (z7 J J J (fun hc_=>zt ((zn6 (h37 hc_)).frz) (xs:=[.tmp 62,.tmp 63]) (.cons (o_w hc_ 62 J) (.cons (o_w hc_ 63 J) .nil)) J J)) (zm.cons (z7 J J J (fun hc_=>zt (zhk (h39 hc_)) (xs:=[.tmp 61,.tmp 64]) (.cons (o_w hc_ 61 J) (.cons (o_w hc_ 64 J) .nil)) J J)) ?_);refine zm.cons (zcc (O 58 J) (fun hc2_=>(o_w hc2_ 65 J)) J J) (zm.cons (zb (O 66 J) J J) ?_);refine zm.cons (z7 J J J (fun hc_=>zl zey (O 4 J) J J)) (zm.cons (z7 J J J (fun hc_=>zb (O 1 J) J J)) ?_);refine zm.cons (z7 J J J (fun hc_=>zt ((zi0 (h41 hc_)).frz) (xs:=[.tmp 68,.tmp 69]) (.cons (o_w hc_ 68 J) (.cons (o_w hc_ 69 J) .nil)) J J)) (zm.cons (z7 J J J (fun hc_=>zl zey (O 4 J) J J)) ?_);refine zm.cons (z7 J J J (fun hc_=>zb (O 1 J) J J)) (zm.cons (z7 J J J (fun hc_=>zt ((ze9 (h43 hc_)).frz) (xs:=[.tmp 71,.tmp 72]) (.cons (o_w hc_ 71 J) (.cons (o_w hc_ 72 J) .nil)) J J)) ?_)
   refine zm.cons (z7 J J J (fun hc_=>zt (zky (h45 hc_)) (xs:=[.tmp 70,.tmp 73]) (.cons (o_w hc_ 70 J) (.cons (o_w hc_ 73 J) .nil)) J J)) (zm.cons (zcc (O 67 J) (fun hc2_=>(o_w hc2_ 74 J)) J J) ?_);refine zm.cons (zb (O 75 J) J J) (zm.cons (z7 J J J (fun hc_=>zl zey (O 4 J) J J)) ?_);refine zm.cons (z7 J J J (fun hc_=>zb (O 1 J) J J)) (zm.cons (z7 J J J (fun hc_=>zt ((ze9 (h47 hc_)).frz) (xs:=[.tmp 77,.tmp 78]) (.cons (o_w hc_ 77 J) (.cons (o_w hc_ 78 J) .nil)) J J)) ?_);refine zm.cons (z7 J J J (fun hc_=>zt ((zl3 (h49 hc_)).frz) (xs:=[.tmp 79]) (.cons (o_w hc_ 79 J) .nil) J J)) (zm.cons (z7 J J J (fun hc_=>zl zey (O 4 J) J J)) ?_);refine zm.cons (z7 J J J (fun hc_=>zb (O 1 J) J J)) (zm.cons (z7 J J J (fun hc_=>zt ((ze9 (h51 hc_)).frz) (xs:=[.tmp 81,.tmp 82]) (.cons (o_w hc_ 81 J) (.cons (o_w hc_ 82 J) .nil)) J J)) ?_);refine zm.cons (z7 J J J (fun hc_=>zt ((zkv (h53 hc_)).frz) (xs:=[.tmp 83]) (.cons (o_w hc_ 83 J) .nil) J J)) (zm.cons (z7 J J J (fun hc_=>zt (zky (h55 hc_)) (xs:=[.tmp 80,.tmp 84]) (.cons (o_w hc_ 80 J) (.cons (o_w hc_ 84 J) .nil)) J J)) ?_);refine zm.cons (h57 ▸ (zcc (O 76 J) (fun hc2_=>(o_w hc2_ 85 J)) J J)) (zm.cons (zb (O 86 J) J J) ?_);refine zm.cons (z7 J J J (fun hc_=>zl zey (O 4 J) J J)) (zm.cons (z7 J J J (fun hc_=>zb (O 3 J) J J)) ?_);refine zm.cons (z7 J J J (fun hc_=>zt ((zkr (h59 hc_)).frz) (xs:=[.tmp 88,.tmp 89]) (.cons (o_w hc_ 88 J) (.cons (o_w hc_ 89 J) .nil)) J J)) (zm.cons (z7 J J J (fun hc_=>zl zey (O 4 J) J J)) ?_);refine zm.cons (z7 J J J (fun hc_=>zb (O 3 J) J J)) (zm.cons (z7 J J J (fun hc_=>zt ((zn8 (h61 hc_)).frz) (xs:=[.tmp 91,.tmp 92]) (.cons (o_w hc_ 91 J) (.cons (o_w hc_ 92 J) .nil)) J J)) ?_)
   refine zm.cons (z7 J J J (fun hc_=>zt (zgn (h63 hc_)) (xs:=[.tmp 90,.tmp 93]) (.cons (o_w hc_ 90 J) (.cons (o_w hc_ 93 J) .nil)) J J)) (zm.cons (zcc (O 87 J) (fun hc2_=>(o_w hc2_ 94 J)) J J) ?_);exact zm.nil
  intro a s _ L;refine sw 8 (za (O 95 J) J J) L fun a s L=>en' (H17 _ _ ?_);subst h;exact wp_ret (zdr J L J)
def Lv (d:List SNode) (s:List SItem) (l:List (List SItem)):Prop:=∃h,lv d h s=some l
theorem Lv.uniq {d:List SNode} {s:List SItem} {l m:List (List SItem)} (h:Lv d s l) (k:Lv d s m):l=m:=by
 obtain ⟨a,ha⟩:=h;obtain ⟨b,hb⟩:=k;have h1:=zi9 (Nat.le_max_left a b) ha;have h2:=zi9 (Nat.le_max_right a b) hb;rw [h1] at h2;exact Option.some.inj h2
theorem Lv.ready {d:List SNode} {s:List SItem} (h:rdy d s=true):Lv d s [s]:=⟨1,by simp [lv,h]⟩
theorem lv_list {d:List SNode}:∀(ss:List (List SItem)) (f:List SItem→List (List SItem)),(∀t∈ss,Lv d t (f t))→∃h,ss.mapM (lv d h)=some (ss.map f)
 | [],_,_=>⟨0,rfl⟩
 | s::ss,f,hs=>by
  obtain ⟨h1,e1⟩:=hs s (by simp);obtain ⟨h2,e2⟩:=lv_list ss f fun t ht=>hs t (by simp [ht]);refine ⟨max h1 h2, ?_⟩;rw [List.mapM_cons,zi9 (Nat.le_max_left h1 h2) e1,zni (fun a b hb=>zi9 (Nat.le_max_right h1 h2) hb) _ _ e2];rfl
theorem Lv.open {d:List SNode} {s:List SItem} (hr:rdy d s=false) (f:List SItem→List (List SItem)) (h:∀t∈opn d s,Lv d t (f t)):Lv d s ((opn d s).map f).flatten:=by
 obtain ⟨k,e⟩:=lv_list _ f h;exact ⟨k+1,by unfold lv;rw [if_neg (by rw [hr];simp),e];rfl⟩
def PM (d:List SNode):Nat→Int→List (List SItem) × Nat
 | 0,_=>([],0)
 | k+1,i=>match at? d i with
  | none=>([],0)
  | some n=>
   if n.1=1 then ([],1)
   else if n.1=3 then ([[(3,i,0,0)]],0)
   else if n.1=4 then ((PM d k n.2.1).1.map (·++[(1,n.2.2.1,0,0)])++(List.replicate (PM d k n.2.1).2 (PM d k n.2.2.1).1).flatten,(PM d k n.2.1).2*(PM d k n.2.2.1).2)
   else if n.1=5 then ((PM d k n.2.1).1++(PM d k n.2.2.1).1,(PM d k n.2.1).2+(PM d k n.2.2.1).2)
   else if n.1=6 then ((PM d k n.2.1).1.map (·++[(1,i,0,0)]),1)
   else if n.1=7 then (if 0<n.2.2.2.2.1 then (PM d k n.2.1).1.map (·++[(2,i,max (n.2.2.2.1-1) 0,n.2.2.2.2.1-1)]) else [],if n.2.2.2.1=0 then 1 else 0)
   else ([[(1,i,0,0)]],0)
theorem zjh {d:List SNode} (hd:ROk d):∀(k k':Nat) (i:Int),i<(k:Int)→i<(k':Int)→PM d k i=PM d k' i
 | 0,k',i,h,h'=>by
  cases k' with
  | zero=>rfl
  | succ k'=>
   have:at? d i=none:=by
    unfold at?;rw [if_neg (by omega)]
   simp [PM,this]
 | k+1,0,i,h,h'=>by
  have:at? d i=none:=by
   unfold at?;rw [if_neg (by omega)]
  simp [PM,this]
 | k+1,k'+1,i,h,h'=>by
  cases hn:at? d i with
  | none=>simp only [PM,hn]
  | some n=>
   simp only [PM,hn]
   by_cases h1:n.1=1
   ·simp [h1]
   ·by_cases h3:n.1=3
    ·simp [h3]
    ·by_cases h4:n.1=4
     ·obtain ⟨⟨a,b⟩,c,e⟩:=hd.two _ n hn (.inl h4);rw [zjh hd k k' n.2.1 (by omega) (by omega),zjh hd k k' n.2.2.1 (by omega) (by omega)]
     ·by_cases h5:n.1=5
      ·obtain ⟨⟨a,b⟩,c,e⟩:=hd.two _ n hn (.inr h5);rw [zjh hd k k' n.2.1 (by omega) (by omega),zjh hd k k' n.2.2.1 (by omega) (by omega)]
      ·by_cases h6:n.1=6
       ·obtain ⟨a,b⟩:=hd.one _ n hn (.inl h6);rw [zjh hd k k' n.2.1 (by omega) (by omega)];simp [h6]
       ·by_cases h7:n.1=7
        ·obtain ⟨a,b⟩:=hd.one _ n hn (.inr (.inl h7));rw [zjh hd k k' n.2.1 (by omega) (by omega)];simp [h7]
        ·simp [h1,h3,h4,h5,h6,h7]
def pm (d:List SNode) (i:Int):List (List SItem):=(PM d d.length i).1
def nw (d:List SNode) (i:Int):Nat:=(PM d d.length i).2
theorem zop {d:List SNode} (hd:ROk d) {i:Int} {n:SNode} (hn:at? d i=some n):PM d d.length i =
  (if n.1=1 then ([],1)
   else if n.1=3 then ([[(3,i,0,0)]],0)
   else if n.1=4 then ((pm d n.2.1).map (·++[(1,n.2.2.1,0,0)])++(List.replicate (nw d n.2.1) (pm d n.2.2.1)).flatten,nw d n.2.1*nw d n.2.2.1)
   else if n.1=5 then (pm d n.2.1++pm d n.2.2.1,nw d n.2.1+nw d n.2.2.1)
   else if n.1=6 then ((pm d n.2.1).map (·++[(1,i,0,0)]),1)
   else if n.1=7 then (if 0<n.2.2.2.2.1 then (pm d n.2.1).map (·++[(2,i,max (n.2.2.2.1-1) 0,n.2.2.2.2.1-1)]) else [],if n.2.2.2.1=0 then 1 else 0)
   else ([[(1,i,0,0)]],0)):=by
 obtain ⟨hb0,hb1⟩:=zda hn;rw [zjh hd d.length (d.length+1) i hb1 (by omega)];simp only [PM,hn,pm,nw]
theorem zkg {d:List SNode} (hd:ROk d):∀(k:Nat) (i:Int) (n:SNode),i<(k:Int)→at? d i=some n→(nw d i≠0↔nz d i=true)
 | 0,i,n,hi,hn=>by have:=zda hn;omega
 | k+1,i,n,hi,hn=>by
  have e:=zop hd hn;have en:nw d i=(PM d d.length i).2:=rfl;rw [en,e,nz_at hd hn]
  by_cases h1:n.1=1
  ·simp [h1]
  ·by_cases h3:n.1=3
   ·simp [h3]
   ·by_cases h4:n.1=4
    ·obtain ⟨⟨a,b⟩,c,e⟩:=hd.two _ n hn (.inl h4);obtain ⟨m1,hm1⟩:=zfe hn a b;obtain ⟨m2,hm2⟩:=zfe hn c e;have i1:=zkg hd k _ m1 (by omega) hm1;have i2:=zkg hd k _ m2 (by omega) hm2;rw [if_neg h1,if_neg h3,if_pos h4,if_neg h1,if_pos h4,Bool.and_eq_true,← i1,← i2];simp only;rw [Nat.mul_ne_zero_iff]
    ·by_cases h5:n.1=5
     ·obtain ⟨⟨a,b⟩,c,e⟩:=hd.two _ n hn (.inr h5);obtain ⟨m1,hm1⟩:=zfe hn a b;obtain ⟨m2,hm2⟩:=zfe hn c e;have i1:=zkg hd k _ m1 (by omega) hm1;have i2:=zkg hd k _ m2 (by omega) hm2;rw [if_neg h1,if_neg h3,if_neg h4,if_pos h5,if_neg h1,if_neg h4,if_pos h5,Bool.or_eq_true,← i1,← i2];simp only;omega
     ·by_cases h6:n.1=6
      ·simp [h6]
      ·by_cases h7:n.1=7
       ·by_cases h0:n.2.2.2.1=0 <;> simp [h7,h0]
       ·simp [h1,h3,h4,h5,h6,h7]
def pmI (d:List SNode) (x:SItem):List (List SItem):=
 if x.1=1 then pm d x.2.1
 else if x.1=2 then (match at? d x.2.1 with | some n=>if 0<x.2.2.2 then (pm d n.2.1).map (·++[(2,x.2.1,max (x.2.2.1-1) 0,x.2.2.2-1)]) else [] | none=>[])
 else if x.1=5 then [] else [[x]]
def nwI (d:List SNode) (x:SItem):Nat:=
 if x.1=1 then nw d x.2.1 else if x.1=2 then (if x.2.2.1=0 then 1 else 0) else if x.1=5 then (if x.2.2.1=0 then 1 else 0) else 0
abbrev Told (d:List SNode) (P:List (List SItem)) (m:Nat) (rest:List SItem) (s:List SItem):Prop:=
 ∀lr,(m≠0→Lv d rest lr)→∃l,Lv d s l∧l.Perm (P.map (·++rest)++(List.replicate m lr).flatten)
theorem perm_flat {α:Type} {a b:List α} (h:a.Perm b) (m:Nat):(List.replicate m a).flatten.Perm (List.replicate m b).flatten:=by
 induction m with
 | zero=>exact .refl _
 | succ m ih=>
  rw [List.replicate_succ,List.replicate_succ,List.flatten_cons,List.flatten_cons];exact h.append ih
theorem rep_split {α:Type} (m:Nat) (a b:List α):(List.replicate m (a++b)).flatten.Perm ((List.replicate m a).flatten++(List.replicate m b).flatten):=by
 induction m with
 | zero=>exact .refl _
 | succ m ih=>
  simp only [List.replicate_succ,List.flatten_cons];refine (ih.append_left (a++b)).trans ?_;rw [List.append_assoc,List.append_assoc];refine List.Perm.append_left a ?_;rw [← List.append_assoc,← List.append_assoc];exact (List.perm_append_comm).append_right _
theorem rep_rep {α:Type} (m k:Nat) (a:List α):(List.replicate m (List.replicate k a).flatten).flatten=(List.replicate (m*k) a).flatten:=by
 induction m with
 | zero=>simp
 | succ m ih=>rw [List.replicate_succ,List.flatten_cons,ih,Nat.succ_mul,Nat.add_comm,← List.replicate_append_replicate,List.flatten_append]
theorem rep_map {α β:Type} (f:α→β) (m:Nat) (a:List α):((List.replicate m a).flatten).map f=(List.replicate m (a.map f)).flatten:=by
 rw [List.map_flatten,List.map_replicate]
theorem told_seq {d:List SNode} {P1 P2:List (List SItem)} {m1 m2:Nat} {b:SItem} {rest s:List SItem} (h1:Told d P1 m1 (b::rest) s) (h2:Told d P2 m2 rest (b::rest)):Told d (P1.map (·++[b])++(List.replicate m1 P2).flatten) (m1*m2) rest s:=by
 intro lr hlr;have key:∃lb,(m1≠0→Lv d (b::rest) lb∧lb.Perm (P2.map (·++rest)++(List.replicate m2 lr).flatten)):=by
  by_cases h:m1=0
  ·exact ⟨[],fun k=>absurd h k⟩
  ·obtain ⟨lb,k1,k2⟩:=h2 lr fun k=>hlr (Nat.mul_ne_zero h k);exact ⟨lb,fun _=>⟨k1,k2⟩⟩
 obtain ⟨lb,hlb⟩:=key;obtain ⟨l,k1,k2⟩:=h1 lb fun k=>(hlb k).1;refine ⟨l,k1,k2.trans ?_⟩;have e1:P1.map (·++b::rest)=(P1.map (·++[b])).map (·++rest):=by
  rw [List.map_map];apply List.map_congr_left;intro p _;simp
 rw [e1,List.map_append,List.append_assoc];refine List.Perm.append_left _ ?_
 by_cases h:m1=0
 ·subst h;simp
 ·refine (perm_flat (hlb h).2 m1).trans ?_;refine (rep_split m1 _ _).trans ?_;rw [rep_map,rep_rep]
theorem znj {d:List SNode} {s t:List SItem} (hr:rdy d s=false) (ho:opn d s=[t]) {l:List (List SItem)} (h:Lv d t l):Lv d s l:=by
 have:=Lv.open hr (fun _=>l) (fun x hx=>by rw [ho] at hx;rw [List.mem_singleton.1 hx];exact h);rw [ho] at this;simpa using this
theorem lv_two {d:List SNode} {s t u:List SItem} (hr:rdy d s=false) (ho:opn d s=[t,u]) {l m:List (List SItem)} (h:Lv d t l) (k:Lv d u m):Lv d s (l++m):=by
 by_cases htu:t=u
 ·subst htu;rw [k.uniq h];have:=Lv.open hr (fun _=>l) (fun x hx=>by rw [ho] at hx;simp at hx;rw [hx];exact h);rw [ho] at this;simpa using this
 ·have:=Lv.open hr (fun x=>if x=t then l else m) (fun x hx=>by
   rw [ho] at hx;simp only [List.mem_cons,List.not_mem_nil,or_false] at hx;rcases hx with rfl | rfl
   ·simp;exact h
   ·simp [Ne.symm htu];exact k)
  rw [ho] at this;simpa [Ne.symm htu] using this
theorem lv_none {d:List SNode} {s:List SItem} (hr:rdy d s=false) (ho:opn d s=[]):Lv d s []:=by
 have:=Lv.open hr (fun _=>[]) (fun x hx=>by rw [ho] at hx;cases hx);rw [ho] at this;simpa using this
theorem told_rep {d:List SNode} (hd:ROk d) {i:Int} {n:SNode} (hn:at? d i=some n) (h7:n.1=7) (hA:∀rest,Told d (pm d n.2.1) 0 rest ((1,n.2.1,0,0)::rest)) (lo hi:Int) (rest:List SItem):
  Told d (if 0<hi then (pm d n.2.1).map (·++[(2,i,max (lo-1) 0,hi-1)]) else []) (if lo=0 then 1 else 0) rest ((2,i,lo,hi)::rest):=by
 intro lr hlr;have hr:rdy d ((2,i,lo,hi)::rest)=false:=by simp [rdy]
 have ho:opn d ((2,i,lo,hi)::rest)=(if lo=0 then [rest] else [])++(if 0<hi then [(1,n.2.1,0,0)::(2,i,max (lo-1) 0,hi-1)::rest] else []):=by
  simp only [opn,hn];rw [if_neg (by decide),if_pos trivial]
 obtain ⟨la,ha,hpa⟩:=hA ((2,i,max (lo-1) 0,hi-1)::rest) [] (fun h=>absurd rfl h);have e1:(pm d n.2.1).map (·++(2,i,max (lo-1) 0,hi-1)::rest)=((pm d n.2.1).map (·++[(2,i,max (lo-1) 0,hi-1)])).map (·++rest):=by
  rw [List.map_map];apply List.map_congr_left;intro p _;simp
 rw [e1] at hpa;simp only [List.replicate_zero,List.flatten_nil,List.append_nil] at hpa
 by_cases h0:lo=0
 ·have hL:=hlr (by simp [h0])
  by_cases h1:0<hi
  ·refine ⟨_,lv_two hr (by rw [ho,if_pos h0,if_pos h1];rfl) hL ha, ?_⟩;rw [if_pos h1,if_pos h0];simp only [List.replicate_one,List.flatten_cons,List.flatten_nil,List.append_nil];exact (List.perm_append_comm).trans (hpa.append_right _)
  ·refine ⟨_,znj hr (by rw [ho,if_pos h0,if_neg h1];rfl) hL, ?_⟩;rw [if_neg h1,if_pos h0];simp
 ·by_cases h1:0<hi
  ·refine ⟨_,znj hr (by rw [ho,if_neg h0,if_pos h1];rfl) ha, ?_⟩;rw [if_pos h1,if_neg h0];simpa using hpa
  ·refine ⟨_,lv_none hr (by rw [ho,if_neg h0,if_neg h1];rfl), ?_⟩;rw [if_neg h1,if_neg h0];simp
theorem zmt {d:List SNode} (hd:ROk d):∀(k:Nat) (i:Int) (n:SNode),i<(k:Int)→at? d i=some n→∀rest,Told d (pm d i) (nw d i) rest ((1,i,0,0)::rest)
 | 0,i,n,hi,hn,_=>by have:=zda hn;omega
 | k+1,i,n,hi,hn,rest=>by
  have ih:=zmt hd k;have e:=zop hd hn;have ep:pm d i=(PM d d.length i).1:=rfl;have en:nw d i=(PM d d.length i).2:=rfl;rw [ep,en,e];have hk9:=hd.kind _ n hn;have rd0:(n.1≠2∧n.1≠8∧n.1≠9)→rdy d ((1,i,0,0)::rest)=false:=fun h=>by
   simp only [rdy,hn];simp [h.1,h.2.1,h.2.2]
  have op0:opn d ((1,i,0,0)::rest)=(if n.1=1 then [rest] else if n.1=3 then [(3,i,0,0)::rest] else if n.1=4 then [(1,n.2.1,0,0)::(1,n.2.2.1,0,0)::rest] else if n.1=5 then [(1,n.2.1,0,0)::rest,(1,n.2.2.1,0,0)::rest]
    else if n.1=6 then [rest,(1,n.2.1,0,0)::(1,i,0,0)::rest] else [(2,i,n.2.2.2.1,n.2.2.2.2.1)::rest]):=by
   simp only [opn,hn];rw [if_neg (by decide),if_neg (by decide)]
  have z0:∀a:Int,0≤a→a<i→nz d a=false→nw d a=0:=fun a h0 h1 hz=>by
   obtain ⟨m,hm⟩:=zfe hn h0 h1;rcases Nat.eq_zero_or_pos (nw d a) with h | h
   ·exact h
   ·have:=(zkg hd k a m (by omega) hm).1 (by omega);rw [hz] at this;cases this
  by_cases h1:n.1=1
  ·rw [if_pos h1];intro lr hlr;refine ⟨lr,znj (rd0 (by omega)) (by rw [op0,if_pos h1]) (hlr (by simp)),by simp⟩
  ·rw [if_neg h1] at op0 ⊢
   by_cases h3:n.1=3
   ·rw [if_pos h3] at op0 ⊢;intro lr hlr;exact ⟨_,znj (rd0 (by omega)) op0 (Lv.ready (by simp [rdy])),by simp⟩
   ·rw [if_neg h3] at op0 ⊢
    by_cases h4:n.1=4
    ·rw [if_pos h4] at op0 ⊢;obtain ⟨⟨a,b⟩,c,e⟩:=hd.two _ n hn (.inl h4);obtain ⟨m1,hm1⟩:=zfe hn a b;obtain ⟨m2,hm2⟩:=zfe hn c e;have:=told_seq (ih _ m1 (by omega) hm1 ((1,n.2.2.1,0,0)::rest)) (ih _ m2 (by omega) hm2 rest);intro lr hlr;obtain ⟨l,k1,k2⟩:=this lr hlr;exact ⟨l,znj (rd0 (by omega)) op0 k1,k2⟩
    ·rw [if_neg h4] at op0 ⊢
     by_cases h5:n.1=5
     ·rw [if_pos h5] at op0 ⊢;obtain ⟨⟨a,b⟩,c,e⟩:=hd.two _ n hn (.inr h5);obtain ⟨m1,hm1⟩:=zfe hn a b;obtain ⟨m2,hm2⟩:=zfe hn c e;intro lr hlr;simp only at hlr;obtain ⟨l1,k1,k2⟩:=ih _ m1 (by omega) hm1 rest lr fun h=>hlr (by omega);obtain ⟨l2,k3,k4⟩:=ih _ m2 (by omega) hm2 rest lr fun h=>hlr (by omega);refine ⟨_,lv_two (rd0 (by omega)) op0 k1 k3,(k2.append k4).trans ?_⟩;rw [List.map_append,← List.replicate_append_replicate,List.flatten_append,List.append_assoc,List.append_assoc];refine List.Perm.append_left _ ?_;rw [← List.append_assoc,← List.append_assoc];exact (List.perm_append_comm).append_right _
     ·rw [if_neg h5] at op0 ⊢
      by_cases h6:n.1=6
      ·rw [if_pos h6] at op0 ⊢;obtain ⟨a,b⟩:=hd.one _ n hn (.inl h6);obtain ⟨m1,hm1⟩:=zfe hn a b;have hz:=z0 _ a b (hd.nn _ n hn (.inl h6));intro lr hlr;have hA:=ih _ m1 (by omega) hm1 ((1,i,0,0)::rest) [] (fun h=>absurd hz h);obtain ⟨l1,k1,k2⟩:=hA;refine ⟨_,lv_two (rd0 (by omega)) op0 (hlr (by simp)) k1, ?_⟩;rw [hz] at k2;have e1:(pm d n.2.1).map (·++(1,i,0,0)::rest)=((pm d n.2.1).map (·++[(1,i,0,0)])).map (·++rest):=by
        rw [List.map_map];apply List.map_congr_left;intro p _;simp
       rw [e1] at k2;simp only [List.replicate_zero,List.flatten_nil,List.append_nil] at k2;simp only [List.replicate_one,List.flatten_cons,List.flatten_nil,List.append_nil];exact (List.perm_append_comm).trans (k2.append_right _)
      ·rw [if_neg h6] at op0 ⊢
       by_cases h7:n.1=7
       ·rw [if_pos h7];obtain ⟨a,b⟩:=hd.one _ n hn (.inr (.inl h7));obtain ⟨m1,hm1⟩:=zfe hn a b;have hz:=z0 _ a b (hd.nn _ n hn (.inr h7));have:=told_rep hd hn h7 (fun rest=>by have:=ih _ m1 (by omega) hm1 rest;rw [hz] at this;exact this) n.2.2.2.1 n.2.2.2.2.1 rest;intro lr hlr;obtain ⟨l,k1,k2⟩:=this lr hlr;exact ⟨l,znj (rd0 (by omega)) op0 k1,k2⟩
       ·rw [if_neg h7];intro lr hlr;refine ⟨_,Lv.ready ?_,by simp⟩;simp only [rdy,hn];have:n.1=2∨n.1=8∨n.1=9:=by omega
        rcases this with h | h | h <;> simp [h]
theorem told_item {d:List SNode} (hd:ROk d) {x:SItem} (hx:zee d x=true) (rest:List SItem):Told d (pmI d x) (nwI d x) rest (x::rest):=by
 by_cases h5:x.1=5
 ·have e1:pmI d x=[]:=by simp [pmI,h5]
  have e2:nwI d x=if x.2.2.1=0 then 1 else 0:=by simp [nwI,h5]
  rw [e1,e2];intro lr hlr;have hr:rdy d (x::rest)=false:=by simp [rdy,h5]
  by_cases h0:x.2.2.1=0
  ·rw [if_pos h0] at hlr ⊢;refine ⟨lr,znj hr (by simp [opn,h5,h0]) (hlr (by simp)),by simp⟩
  ·rw [if_neg h0];exact ⟨_,lv_none hr (by simp [opn,h5,h0]),by simp⟩
 ·obtain ⟨n,hn,hk⟩:=zf9 hx h5;rcases hk with h1 | ⟨h2,h7⟩ | ⟨h3,_⟩ | ⟨h4,_⟩
  ·have e:x=(1,x.2.1,0,0):=by
    unfold zee at hx;rw [if_neg h5,hn] at hx;simp [h1] at hx;obtain ⟨a,b,c,e⟩:=x;simp only at h1 hx;rw [h1,hx.1,hx.2]
   have e1:pmI d x=pm d x.2.1:=by simp [pmI,h1]
   have e2:nwI d x=nw d x.2.1:=by simp [nwI,h1]
   have:=zda hn;rw [e1,e2];have ht:=zmt hd d.length _ n (by omega) hn rest;rw [← e] at ht;exact ht
  ·have e1:pmI d x=if 0<x.2.2.2 then (pm d n.2.1).map (·++[(2,x.2.1,max (x.2.2.1-1) 0,x.2.2.2-1)]) else []:=by simp [pmI,h2,hn]
   have e2:nwI d x=if x.2.2.1=0 then 1 else 0:=by simp [nwI,h2]
   rw [e1,e2];obtain ⟨a,b⟩:=hd.one _ n hn (.inr (.inl h7));obtain ⟨m1,hm1⟩:=zfe hn a b;have hb:=zda hn;have hz:nw d n.2.1=0:=by
    rcases Nat.eq_zero_or_pos (nw d n.2.1) with h | h
    ·exact h
    ·have:=(zkg hd d.length _ m1 (by omega) hm1).1 (by omega);rw [hd.nn _ n hn (.inr h7)] at this;cases this
   have:=told_rep hd hn h7 (fun rest=>by have:=zmt hd d.length _ m1 (by omega) hm1 rest;rw [hz] at this;exact this) x.2.2.1 x.2.2.2 rest;obtain ⟨xk,xi,xl,xh⟩:=x;simp only at h2;subst h2;exact this
  ·have e1:pmI d x=[[x]]:=by simp [pmI,h3]
   have e2:nwI d x=0:=by simp [nwI,h3]
   rw [e1,e2];intro lr _;exact ⟨_,Lv.ready (by simp [rdy,h3]),by simp⟩
  ·have e1:pmI d x=[[x]]:=by simp [pmI,h4]
   have e2:nwI d x=0:=by simp [nwI,h4]
   rw [e1,e2];intro lr _;exact ⟨_,Lv.ready (by simp [rdy,h4]),by simp⟩
def hds (d:List SNode):List SItem→List (List SItem)
 | []=>[[]]
 | x::rest=>(pmI d x).map (·++rest)++(List.replicate (nwI d x) (hds d rest)).flatten
theorem hds_lv {d:List SNode} (hd:ROk d):∀(s:List SItem),zd4 d s=true→∃l,Lv d s l∧l.Perm (hds d s)
 | [],_=>⟨[[]],Lv.ready rfl,.refl _⟩
 | x::rest,hf=>by
  obtain ⟨h1,h2⟩:=zeb hf;obtain ⟨lr,k1,k2⟩:=hds_lv hd rest h2;obtain ⟨l,k3,k4⟩:=told_item hd h1 rest lr fun _=>k1;exact ⟨l,k3,k4.trans (List.Perm.append_left _ (perm_flat k2 _))⟩
theorem exl {ρ:Type} {γ:Sort _} {P:γ→ρ→Prop} (c:γ) (h:∃r,P c r):∃r,∃c,P c r:=let ⟨r,h⟩:=h;⟨r,c,h⟩
theorem zmc {ρ:Type} {A:Prop} {B:ρ→Prop} (a:A) (h:∃r,B r):∃r,A∧B r:=let ⟨r,h⟩:=h;⟨r,a,h⟩
theorem pick {ρ:Type} [Inhabited ρ] {b:Bool} {X Y:ρ→Prop} (h1:b=true→∃r,X r) (h2:b=false→∃r,Y r):∃r,(b=true→X r)∧(b=false→Y r):=by
 cases b
 ·obtain ⟨r,h⟩:=h2 rfl;exact ⟨r,(fun h=>by cases h),fun _=>h⟩
 ·obtain ⟨r,h⟩:=h1 rfl;exact ⟨r,fun _=>h,(fun h=>by cases h)⟩
def sumT (l:List SNode):Nat:=(l.map fun n=>n.2.2.2.2.2.2.length).sum
theorem sumT_le {l:List SNode} (h:∀n∈l,n.2.2.2.2.2.2.length≤140737488351232):sumT l≤l.length*140737488351232:=by
 induction l with
 | nil=>simp [sumT]
 | cons x l ih=>
  have h1:=h x (by simp);have h2:=ih fun n hn=>h n (by simp [hn]);simp only [sumT,List.map_cons,List.sum_cons,List.length_cons] at h2 ⊢;omega
theorem few_ex {d:List SNode} (ht:∀n∈d,n.2.2.2.2.2.2.length≤140737488351232):∃r,zds d r∧(r=true→d.length≤100):=by
 refine ⟨decide ((d.length:Int)≤100)&&decide (((sumT (d.take (min d.length 200)):Nat):Int)≤2000), ?_,fun h=>?_⟩
 ·refine zg1 (P:=fun k (s:Int) v=>zds.l1 d _ k s v) (min d.length 200) (fun i s=>s=((sumT (d.take i):Nat):Int)) ?_ ?_ _ (by simp [sumT])
  ·rintro i s hi rfl;have hd:i<d.length:=by omega
   have h1:=sumT_le (l:=d.take i) fun n hn=>ht n (List.mem_of_mem_take hn);have h2:=ht _ (List.getElem_mem hd);have h3:(d.take i).length=i:=by simp;omega
   rw [h3] at h1;have h4:i*140737488351232≤200*140737488351232:=Nat.mul_le_mul_right _ (by omega);have e:sumT (d.take (i+1))=sumT (d.take i)+d[i].2.2.2.2.2.2.length:=by
    unfold sumT;rw [List.take_succ_eq_append_getElem hd,List.map_append,List.sum_append];simp only [List.map_cons,List.map_nil,List.sum_cons,List.sum_nil,Nat.add_zero]
   refine .inr ⟨_,rfl,fun k h=>⟨true,by simp;omega,fun _=>⟨d[i],by rw [zci];simp [hd],zn (by omega) (by omega),zn (by omega) (by omega), ?_⟩,(fun h=>by cases h)⟩⟩;rw [e] at h;simpa using h
  ·rintro s rfl k;exact ⟨false,by simp;omega,(fun h=>by cases h),fun _=>⟨_,rfl,rfl⟩⟩
 ·simp only [Bool.and_eq_true,decide_eq_true_eq] at h;omega
theorem byte_in {s:Str} {i:Int} (h0:0≤i) (h1:i<(s.length:Int)):∃c,zfz s i=some c:=by
 obtain ⟨x,hx,_⟩:=at_in h0 h1;exact ⟨_,by unfold zfz;rw [hx];rfl⟩
theorem in_ex (s:Str) {i:Int} (f t:Int) (h0:0≤i):∃r,zf1 s i f t r:=by
 by_cases h1:i<(s.length:Int)
 ·obtain ⟨c,hc⟩:=byte_in h0 h1;exact ⟨_,c,fun _=>hc,_,rfl,c,fun _=>hc,rfl⟩
 ·exact ⟨_,0,fun h=>absurd (dt h) h1,_,rfl,0,fun h=>absurd h (by simp [h1]),rfl⟩
theorem utf8_ex {s:Str} (hl:s.length≤140737488351232):∃r,zbu s r:=by
 have key:∀(m:Nat) (i:Int),0≤i→(s.length:Int)+4-i≤m→i≤(s.length:Int)+4→∃q:Bool × Nat,zbu.l1 s q.1 (zbu.j1 q.1) q.2 i:=by
  intro m
  induction m with
  | zero=>
   intro i h0 h1 h2;exact ⟨(true,1),fun h=>absurd (dt h) (by omega),fun _=>rfl⟩
  | succ m ih=>
   intro i h0 h1 h2
   suffices h:∃q:Bool × Nat,zbu.l1 s q.1 (zbu.j1 q.1) (q.2+1) i by
    obtain ⟨q,hq⟩:=h;exact ⟨(q.1,q.2+1),hq⟩
   unfold zbu.l1;refine pick (fun hd=>?_) (fun hd=>⟨(true,0),rfl⟩);have hlt:=dt hd;obtain ⟨c,hc⟩:=byte_in h0 hlt;obtain ⟨r17,h17⟩:=in_ex s (i:=i+1) 128 191 (by omega);obtain ⟨r21,h21⟩:=in_ex s (i:=i+2) 128 191 (by omega);obtain ⟨r25,h25⟩:=in_ex s (i:=i+3) 128 191 (by omega);obtain ⟨r35,h35⟩:=in_ex s (i:=i+1) 160 191 (by omega);obtain ⟨r44,h44⟩:=in_ex s (i:=i+1) 128 159 (by omega);obtain ⟨r49,h49⟩:=in_ex s (i:=i+1) 144 191 (by omega);obtain ⟨r58,h58⟩:=in_ex s (i:=i+1) 128 143 (by omega);have i1:InR .i64 (i+1):=zn (by omega) (by omega);have i2:InR .i64 (i+2):=zn (by omega) (by omega);have i3:InR .i64 (i+3):=zn (by omega) (by omega);have i4:InR .i64 (i+4):=zn (by omega) (by omega);have g1:=ih (i+1) (by omega) (by omega) (by omega);have g2:=ih (i+2) (by omega) (by omega) (by omega);have g3:=ih (i+3) (by omega) (by omega) (by omega);have g4:=ih (i+4) (by omega) (by omega) (by omega);refine exl c (zmc hc (zmc i1 (exl r17 (zmc h17 (zmc i2 (exl r21 (zmc h21 (zmc i3 (exl r25 (zmc h25 (pick (fun _=>zmc i1 g1) (fun _=>?_))))))))))));refine exl _ (zmc rfl (pick (fun _=>zmc i2 g2) (fun _=>?_)));refine zmc (fun _=>i1) (exl r35 (zmc (fun _=>h35) (pick (fun _=>zmc i3 g3) (fun _=>?_))));refine exl _ (zmc rfl (pick (fun _=>zmc i3 g3) (fun _=>?_)));refine zmc (fun _=>i1) (exl r44 (zmc (fun _=>h44) (pick (fun _=>zmc i3 g3) (fun _=>?_))));refine zmc (fun _=>i1) (exl r49 (zmc (fun _=>h49) (pick (fun _=>zmc i4 g4) (fun _=>?_))));refine exl _ (zmc rfl (pick (fun _=>zmc i4 g4) (fun _=>?_)));refine zmc (fun _=>i1) (exl r58 (zmc (fun _=>h58) (pick (fun _=>zmc i4 g4) (fun _=>?_))))
   exact ⟨(false,0),rfl⟩
 obtain ⟨q,hq⟩:=key (s.length+4) 0 (by omega) (by omega) (by omega);exact ⟨q.1,q.2,hq⟩
theorem text_ex {s:Str} (hl:s.length≤140737488351232):∃r,zc4 s r∧(r=true→s≠[]):=by
 obtain ⟨u,hu⟩:=utf8_ex hl;have tne:∀u:Bool,(decide (0<(s.length:Int))&&u)=true→s≠[]:=fun u h e=>by subst e;simp at h
 have key:∀(m:Nat) (i:Int),0≤i→(s.length:Int)-i≤m→i≤(s.length:Int)→∃q:Bool × Nat,zc4.l1 s q.1 (zc4.j1 s q.1) q.2 i∧(q.1=true→s≠[]):=by
  intro m
  induction m with
  | zero=>
   intro i h0 h1 h2;exact ⟨(decide (0<(s.length:Int))&&u,1),⟨fun h=>absurd (dt h) (by omega),fun _=>⟨u,fun _=>hu,rfl⟩⟩,tne u⟩
  | succ m ih=>
   intro i h0 h1 h2
   by_cases hlt:i<(s.length:Int)
   ·obtain ⟨c,hc⟩:=byte_in h0 hlt
    by_cases h34:c=34
    ·exact ⟨(false,1),⟨fun _=>⟨c,hc,fun _=>rfl,fun h=>by simp [h34] at h⟩,fun h=>absurd hlt (df h)⟩,(fun h=>by cases h)⟩
    ·obtain ⟨q,hq,hq2⟩:=ih (i+1) (by omega) (by omega) (by omega);exact ⟨(q.1,q.2+1),⟨fun _=>⟨c,hc,fun h=>by simp at h;exact absurd h h34,fun _=>⟨zn (by omega) (by omega),hq⟩⟩,fun h=>absurd hlt (df h)⟩,hq2⟩
   ·exact ⟨(decide (0<(s.length:Int))&&u,1),⟨fun h=>absurd (dt h) hlt,fun _=>⟨u,fun _=>hu,rfl⟩⟩,tne u⟩
 obtain ⟨q,hq,hq2⟩:=key s.length 0 (by omega) (by omega) (by omega);exact ⟨q.1,⟨q.2,hq⟩,hq2⟩
inductive Tr (l:List SNode):Int→Int→Prop
 | leaf {i:Int} {e:SNode} (he:at? l i=some e) (hk:e.1=1∨e.1=2∨e.1=3) (hx:e.1=3→e.2.2.2.2.2.2≠[]) (h0:e.2.1=0∧e.2.2.1=0):Tr l i i
 | one {f i:Int} {e:SNode} (he:at? l i=some e) (hk:e.1=6∨e.1=7∨e.1=8∨e.1=9) (ha:e.2.1=i-1) (hb:e.2.2.1=0) (hr:e.1=7→0≤e.2.2.2.1∧e.2.2.2.1≤e.2.2.2.2.1∧e.2.2.2.2.1≤255) (h:Tr l f (i-1)):Tr l f i
 | two {f p i:Int} {e:SNode} (he:at? l i=some e) (hk:e.1=4∨e.1=5) (ha:e.2.1=p-1) (hb:e.2.2.1=i-1) (h1:Tr l p (i-1)) (h2:Tr l f (p-1)):Tr l f i
theorem Tr.le {l:List SNode} {f i:Int} (h:Tr l f i):0≤f∧f≤i:=by
 induction h with
 | leaf he _ _ _=>exact ⟨(zda he).1,Int.le_refl _⟩
 | one _ _ _ _ _ _ ih=>omega
 | two _ _ _ _ _ _ i1 i2=>omega
theorem Tr.lt {l:List SNode} {f i:Int} (h:Tr l f i):i<(l.length:Int):=by
 cases h with
 | leaf he _ _ _=>exact (zda he).2
 | one he _ _ _ _ _=>exact (zda he).2
 | two he _ _ _ _ _=>exact (zda he).2
theorem Tr.sub {l:List SNode} {f i:Int} (h:Tr l f i):∀k,f≤k→k≤i→∃g,Tr l g k∧f≤g:=by
 induction h with
 | leaf he hk hx h0=>
  rename_i i e
  intro k h1 h2;obtain rfl:k=i:=by omega
  exact ⟨k,.leaf he hk hx h0,Int.le_refl _⟩
 | one he hk ha hb hr h ih=>
  rename_i f i e
  intro k h1 h2
  by_cases hki:k=i
  ·subst hki;exact ⟨f,.one he hk ha hb hr h,Int.le_refl _⟩
  ·exact ih k h1 (by omega)
 | two he hk ha hb h1 h2 i1 i2=>
  rename_i f p i e
  intro k k1 k2;have l1:=h1.le;have l2:=h2.le
  by_cases hki:k=i
  ·subst hki;exact ⟨f,.two he hk ha hb h1 h2,Int.le_refl _⟩
  ·by_cases hkp:p≤k
   ·obtain ⟨g,g1,g2⟩:=i1 k hkp (by omega);exact ⟨g,g1,by omega⟩
   ·exact i2 k k1 (by omega)
def zlz (l:List SNode) (i r:Int):Prop:=r = -1∨Tr l r i
theorem first_ex {l:List SNode} (hl:l.length≤1000) (ht:∀n∈l,n.2.2.2.2.2.2.length≤140737488351232):∀(m:Nat) (i:Int),i<(m:Int)→-1≤i→i<(l.length:Int)→∃r,z6.n (m+1) l i r∧zlz l i r:=by
 intro m
 induction m with
 | zero=>
  intro i h1 h2 h3;exact ⟨-1,⟨fun _=>rfl,fun h=>absurd (by omega) (df h)⟩,.inl rfl⟩
 | succ m ih=>
  intro i h1 h2 h3
  by_cases h0:i<0
  ·exact ⟨-1,⟨fun _=>rfl,fun h=>absurd h0 (df h)⟩,.inl rfl⟩
  ·obtain ⟨e,he,hm⟩:=at_in (xs:=l) (i:=i) (by omega) h3;have i1:InR .i64 (i-1):=zn (by omega) (by omega);obtain ⟨p,hp,hpo⟩:=ih (i-1) (by omega) (by omega) (by omega);have one:∀w:SNode,(e=w→w.2.1=i-1∧(w.1=6∨w.1=7∨w.1=8∨w.1=9)∧(w.1=7→0≤w.2.2.2.1∧w.2.2.2.1≤w.2.2.2.2.1∧w.2.2.2.2.1≤255)∧w.2.2.1=0)→∃r,z6.j1 (z6.n (m+1)) l i r e w∧zlz l i r:=by
    intro w hw
    by_cases hew:e=w
    ·refine ⟨p,⟨i1,p,hp,fun h=>by simp [hew] at h,fun _=>rfl⟩, ?_⟩;rcases hpo with rfl | p0
     ·exact .inl rfl
     ·obtain ⟨w1,w2,w3,w4⟩:=hw hew;exact .inr (.one he (by rw [hew];exact w2) (by rw [hew];exact w1) (by rw [hew];exact w4) (by rw [hew];exact w3) p0)
    ·exact ⟨-1,⟨i1,p,hp,fun _=>rfl,fun h=>by simp at h;exact absurd h hew⟩,.inl rfl⟩
   have two:(e.1=4∨e.1=5)→∃r,z6.j2 (z6.n (m+1)) l i r e true∧zlz l i r:=by
    intro hk
    by_cases hp0:p<0
    ·exact ⟨-1,⟨fun _=>⟨i1,i1,p,hp,fun _=>rfl,fun h=>absurd hp0 (df h)⟩,(fun h=>by cases h)⟩,.inl rfl⟩
    ·have htr:Tr l p (i-1):=by
      rcases hpo with rfl | h
      ·omega
      ·exact h
     have p1:=htr.le;obtain ⟨q,hq,hqo⟩:=ih (p-1) (by omega) (by omega) (by omega);have j1:InR .i64 (p-1):=zn (by omega) (by omega)
     by_cases hew:e=(e.1,p-1,i-1,0,0,(0#256),([]:Str))
     ·refine ⟨q,⟨fun _=>⟨i1,i1,p,hp,fun h=>absurd (dt h) hp0,fun _=>⟨j1,j1,q,hq,false, ?_,(fun h=>by cases h),fun _=>rfl⟩⟩,(fun h=>by cases h)⟩, ?_⟩
      ·have:(e != (e.1,p-1,i-1,0,0,(0#256),([]:Str)))=false:=by rw [← hew];simp
       exact this.symm
      ·rcases hqo with rfl | q0
       ·exact .inl rfl
       ·exact .inr (.two he hk (by rw [hew]) (by rw [hew]) htr q0)
     ·refine ⟨-1,⟨fun _=>⟨i1,i1,p,hp,fun h=>absurd (dt h) hp0,fun _=>⟨j1,j1,q,hq,true, ?_,fun _=>rfl,(fun h=>by cases h)⟩⟩,(fun h=>by cases h)⟩,.inl rfl⟩;exact (bne_iff_ne.2 hew).symm
   have three:(e.1=6∨e.1=7∨e.1=8∨e.1=9)→∃r,z6.j3 (z6.n (m+1)) l i r e true∧zlz l i r:=by
    intro hk
    by_cases h7:e.1=7
    ·by_cases hb:((decide (e.2.2.2.1<0))||(decide (e.2.2.2.2.1<e.2.2.2.1))||(decide (255<e.2.2.2.2.1)))=true
     ·exact ⟨-1,⟨fun _=>⟨i1,fun _=>⟨_,rfl,fun _=>rfl,fun h=>by rw [hb] at h;cases h⟩,fun h=>by simp [h7] at h⟩,(fun h=>by cases h)⟩,.inl rfl⟩
     ·obtain ⟨r,hr1,hr2⟩:=one (e.1,i-1,0,e.2.2.2.1,e.2.2.2.2.1,(0#256),([]:Str)) fun _=>⟨rfl,hk,fun _=>by
       simp only [Bool.or_eq_true,decide_eq_true_eq,not_or] at hb;exact ⟨by show (0:Int)≤e.2.2.2.1;omega,by show e.2.2.2.1≤e.2.2.2.2.1;omega,by show e.2.2.2.2.1≤255;omega⟩,rfl⟩
      exact ⟨r,⟨fun _=>⟨i1,fun _=>⟨_,rfl,fun h=>absurd h hb,fun _=>hr1⟩,fun h=>by simp [h7] at h⟩,(fun h=>by cases h)⟩,hr2⟩
    ·obtain ⟨r,hr1,hr2⟩:=one (e.1,i-1,0,0,0,(0#256),([]:Str)) fun _=>⟨rfl,hk,fun h=>absurd h h7,rfl⟩;exact ⟨r,⟨fun _=>⟨i1,fun h=>by simp at h;exact absurd h h7,fun _=>hr1⟩,(fun h=>by cases h)⟩,hr2⟩
   have ne:∀{a b:Int},a≠b→(a==b)=true→False:=fun h k=>h (eq_of_beq k);have last:∀b:Bool,(b=true↔e.1=9)→e.1≠6→e.1≠7→e.1≠8→∃r,z6.j3 (z6.n (m+1)) l i r e b∧zlz l i r:=by
    intro b hb n6 n7 n8;cases b
    ·have n9:e.1≠9:=fun h=>by have:=hb.2 h;cases this
     by_cases h4:e.1=4
     ·obtain ⟨r,hr1,hr2⟩:=two (.inl h4);exact ⟨r,⟨(fun h=>by cases h),fun _=>⟨fun h=>by rw [h];exact hr1,fun h=>by simp [h4] at h⟩⟩,hr2⟩
     ·by_cases h5:e.1=5
      ·obtain ⟨r,hr1,hr2⟩:=two (.inr h5);have e5:(e.1==5)=true:=by simp [h5]
       exact ⟨r,⟨(fun h=>by cases h),fun _=>⟨fun h=>by simp at h;exact absurd h h4,fun _=>by rw [e5];exact hr1⟩⟩,hr2⟩
      ·have e5:(e.1==5)=false:=by simp [h5]
       exact ⟨-1,⟨(fun h=>by cases h),fun _=>⟨fun h=>by simp at h;exact absurd h h4,fun _=>by rw [e5];exact ⟨(fun h=>by cases h),fun _=>rfl⟩⟩⟩,.inl rfl⟩
    ·exact three (.inr (.inr (.inr (hb.1 rfl))))
   suffices h:∃r,(∃e6:SNode,at? l i=some e6∧_)∧zlz l i r by
    obtain ⟨r,hr,ho⟩:=h;exact ⟨r,⟨fun h=>absurd (dt h) h0,fun _=>hr⟩,ho⟩
   by_cases k1:e.1=1
   ·by_cases hw:e=(e.1,0,0,0,0,(0#256),([]:Str))
    ·exact ⟨i,⟨e,he,fun _=>⟨fun h=>by rw [← hw] at h;simp at h,fun _=>rfl⟩,fun h=>by simp [k1] at h⟩,.inr (.leaf he (.inl k1) (fun h=>by omega) ⟨by rw [hw],by rw [hw]⟩)⟩
    ·exact ⟨-1,⟨e,he,fun _=>⟨fun _=>rfl,fun h=>by simp at h;exact absurd h hw⟩,fun h=>by simp [k1] at h⟩,.inl rfl⟩
   ·by_cases k2:e.1=2
    ·by_cases hw:e=(e.1,0,0,0,0,e.2.2.2.2.2.1,([]:Str))
     ·exact ⟨i,⟨e,he,fun h=>(ne k1 h).elim,fun _=>⟨fun _=>⟨false,by rw [← hw];simp,(fun h=>by cases h),fun _=>rfl⟩,fun h=>by simp [k2] at h⟩⟩,.inr (.leaf he (.inr (.inl k2)) (fun h=>by omega) ⟨by rw [hw],by rw [hw]⟩)⟩
     ·exact ⟨-1,⟨e,he,fun h=>(ne k1 h).elim,fun _=>⟨fun _=>⟨true,(bne_iff_ne.2 hw).symm,fun _=>rfl,(fun h=>by cases h)⟩,fun h=>by simp [k2] at h⟩⟩,.inl rfl⟩
    ·by_cases k3:e.1=3
     ·obtain ⟨t,htx,htn⟩:=text_ex (ht e hm);cases t
      ·exact ⟨-1,⟨e,he,fun h=>(ne k1 h).elim,fun _=>⟨fun h=>(ne k2 h).elim,fun _=>⟨fun _=>⟨false,htx,fun _=>rfl,(fun h=>by cases h)⟩,fun h=>by simp [k3] at h⟩⟩⟩,.inl rfl⟩
      ·by_cases hw:e=(e.1,0,0,0,0,(0#256),e.2.2.2.2.2.2)
       ·exact ⟨i,⟨e,he,fun h=>(ne k1 h).elim,fun _=>⟨fun h=>(ne k2 h).elim,fun _=>⟨fun _=>⟨true,htx,(fun h=>by cases h),fun _=>⟨false,by rw [← hw];simp,(fun h=>by cases h),fun _=>rfl⟩⟩,fun h=>by simp [k3] at h⟩⟩⟩,.inr (.leaf he (.inr (.inr k3)) (fun _=>htn rfl) ⟨by rw [hw],by rw [hw]⟩)⟩
       ·exact ⟨-1,⟨e,he,fun h=>(ne k1 h).elim,fun _=>⟨fun h=>(ne k2 h).elim,fun _=>⟨fun _=>⟨true,htx,(fun h=>by cases h),fun _=>⟨true,(bne_iff_ne.2 hw).symm,fun _=>rfl,(fun h=>by cases h)⟩⟩,fun h=>by simp [k3] at h⟩⟩⟩,.inl rfl⟩
     ·by_cases k6:e.1=6
      ·obtain ⟨r,hr1,hr2⟩:=three (.inl k6);exact ⟨r,⟨e,he,fun h=>(ne k1 h).elim,fun _=>⟨fun h=>(ne k2 h).elim,fun _=>⟨fun h=>(ne k3 h).elim,fun _=>⟨fun h=>by rw [h];exact hr1,fun h=>by simp [k6] at h⟩⟩⟩⟩,hr2⟩
      ·by_cases k7:e.1=7
       ·obtain ⟨r,hr1,hr2⟩:=three (.inr (.inl k7));exact ⟨r,⟨e,he,fun h=>(ne k1 h).elim,fun _=>⟨fun h=>(ne k2 h).elim,fun _=>⟨fun h=>(ne k3 h).elim,fun _=>⟨fun h=>(ne k6 h).elim,fun _=>⟨fun h=>by rw [h];exact hr1,fun h=>by simp [k7] at h⟩⟩⟩⟩⟩,hr2⟩
       ·by_cases k8:e.1=8
        ·obtain ⟨r,hr1,hr2⟩:=three (.inr (.inr (.inl k8)));exact ⟨r,⟨e,he,fun h=>(ne k1 h).elim,fun _=>⟨fun h=>(ne k2 h).elim,fun _=>⟨fun h=>(ne k3 h).elim,fun _=>⟨fun h=>(ne k6 h).elim,fun _=>⟨fun h=>(ne k7 h).elim,fun _=>⟨fun h=>by rw [h];exact hr1,fun h=>by simp [k8] at h⟩⟩⟩⟩⟩⟩,hr2⟩
        ·obtain ⟨r,hr1,hr2⟩:=last (e.1==9) beq_iff_eq k6 k7 k8;exact ⟨r,⟨e,he,fun h=>(ne k1 h).elim,fun _=>⟨fun h=>(ne k2 h).elim,fun _=>⟨fun h=>(ne k3 h).elim,fun _=>⟨fun h=>(ne k6 h).elim,fun _=>⟨fun h=>(ne k7 h).elim,fun _=>⟨fun h=>(ne k8 h).elim,fun _=>hr1⟩⟩⟩⟩⟩⟩,hr2⟩
theorem form_ex {d:List SNode} (hl:d.length≤1000) (ht:∀n∈d,n.2.2.2.2.2.2.length≤140737488351232):∃r,zjw d r∧(r=true→Tr d 0 ((d.length:Int)-1)):=by
 obtain ⟨r,hr,ho⟩:=first_ex hl ht d.length ((d.length:Int)-1) (by omega) (by omega) (by omega);refine ⟨_,⟨fun _=>zn (by omega) (by omega),r,fun _=>⟨_,hr⟩,rfl⟩,fun h=>?_⟩;simp only [Bool.and_eq_true,decide_eq_true_eq,beq_iff_eq] at h;rcases ho with rfl | h2
 ·omega
 ·rw [h.2] at h2;exact h2
def powW (a:Nat) (t:Nat):Nat:=if t=0 then 1 else if a=0 then 0 else if a=1 then 1 else 2
theorem powW_le (a t:Nat):powW a t≤2:=by
 unfold powW;split
 ·omega
 ·split
  ·omega
  ·split <;> omega
theorem powW_step {a:Nat} (ha:a≤2) (t:Nat):min 2 (powW a t*a)=powW a (t+1):=by
 have:a=0∨a=1∨a=2:=by omega
 unfold powW
 by_cases ht:t=0
 ·subst ht;rcases this with rfl | rfl | rfl <;> simp
 ·rcases this with rfl | rfl | rfl <;> simp [ht]
def sumW (a lo:Nat):Nat→Nat
 | 0=>0
 | m+1=>min 2 (sumW a lo m+powW a (lo+m))
theorem sumW_le (a lo m:Nat):sumW a lo m≤2:=by
 cases m with
 | zero=>simp [sumW]
 | succ m=>simp only [sumW];omega
theorem sumW_zero (a lo:Nat):∀m,sumW a lo m≠0↔∃t,t<m∧powW a (lo+t)≠0
 | 0=>by simp [sumW]
 | m+1=>by
  have ih:=sumW_zero a lo m;simp only [sumW];constructor
  ·intro h
   by_cases h1:sumW a lo m≠0
   ·obtain ⟨t,h2,h3⟩:=ih.1 h1;exact ⟨t,by omega,h3⟩
   ·exact ⟨m,by omega,by omega⟩
  ·rintro ⟨t,h1,h2⟩
   by_cases htm:t=m
   ·subst htm;omega
   ·have:=ih.2 ⟨t,by omega,h2⟩;omega
theorem zna {a t:Nat}:powW a t≠0↔t=0∨a≠0:=by
 unfold powW
 by_cases h1:t=0
 ·simp [h1]
 ·by_cases h2:a=0
  ·simp [h1,h2]
  ·rw [if_neg h1,if_neg h2];split <;> simp [h1,h2]
structure NOk (d:List SNode):Prop where
 two:∀(i:Int) n,at? d i=some n→(n.1=4∨n.1=5)→(0≤n.2.1∧n.2.1<i)∧(0≤n.2.2.1∧n.2.2.1<i)
 one:∀(i:Int) n,at? d i=some n→(n.1=6∨n.1=7∨n.1=8∨n.1=9)→0≤n.2.1∧n.2.1<i
 rep:∀(i:Int) n,at? d i=some n→n.1=7→0≤n.2.2.2.1∧n.2.2.2.1≤n.2.2.2.2.1∧n.2.2.2.2.1≤255
 kind:∀(i:Int) n,at? d i=some n→1≤n.1∧n.1≤9
 ntx:∀(i:Int) n,at? d i=some n→n.1=3→n.2.2.2.2.2.2≠[]
theorem Tr.node {l:List SNode} {f i:Int} (h:Tr l f i) {n:SNode} (hn:at? l i=some n):
  ((n.1=4∨n.1=5)→(0≤n.2.1∧n.2.1<i)∧(0≤n.2.2.1∧n.2.2.1<i))∧((n.1=6∨n.1=7∨n.1=8∨n.1=9)→0≤n.2.1∧n.2.1<i)∧(n.1=7→0≤n.2.2.2.1∧n.2.2.2.1≤n.2.2.2.2.1∧n.2.2.2.2.1≤255)∧(1≤n.1∧n.1≤9)∧(n.1=3→n.2.2.2.2.2.2≠[]):=by
 cases h with
 | leaf he hk hx h0=>
  rw [hn] at he;cases he;exact ⟨fun h=>by omega,fun h=>by omega,fun h=>by omega,by omega,hx⟩
 | one he hk ha hb hr h=>
  rw [hn] at he;cases he;have:=h.le;exact ⟨fun h=>by omega,fun h=>by omega,hr,by omega,fun h=>by omega⟩
 | two he hk ha hb h1 h2=>
  rw [hn] at he;cases he;have:=h1.le;have:=h2.le;exact ⟨fun h=>by omega,fun h=>by omega,fun h=>by omega,by omega,fun h=>by omega⟩
theorem Tr.at {d:List SNode} (h:Tr d 0 ((d.length:Int)-1)) {i:Int} {n:SNode} (hn:at? d i=some n):∃g,Tr d g i:=by
 have hb:=zda hn;obtain ⟨g,hg,_⟩:=h.sub i hb.1 (by omega);exact ⟨g,hg⟩
theorem Tr.nok {d:List SNode} (h:Tr d 0 ((d.length:Int)-1)):NOk d:=
 ⟨fun i n hn=>let ⟨g,hg⟩:=h.at hn;(hg.node hn).1,fun i n hn=>let ⟨g,hg⟩:=h.at hn;(hg.node hn).2.1,fun i n hn=>let ⟨g,hg⟩:=h.at hn;(hg.node hn).2.2.1,fun i n hn=>let ⟨g,hg⟩:=h.at hn;(hg.node hn).2.2.2.1,fun i n hn=>let ⟨g,hg⟩:=h.at hn;(hg.node hn).2.2.2.2⟩
def WV (d:List SNode):Nat→Int→Nat
 | 0,_=>0
 | k+1,i=>match at? d i with
  | none=>0
  | some n=>
   if n.1=1 then 1
   else if n.1=4 then min 2 (WV d k n.2.1*WV d k n.2.2.1)
   else if n.1=5 then min 2 (WV d k n.2.1+WV d k n.2.2.1)
   else if n.1=6 then (if 0<WV d k n.2.1 then 2 else 1)
   else if n.1=7 then sumW (WV d k n.2.1) n.2.2.2.1.toNat (n.2.2.2.2.1+1-n.2.2.2.1).toNat
   else 0
theorem WV_le (d:List SNode) (k:Nat) (i:Int):WV d k i≤2:=by
 cases k with
 | zero=>simp [WV]
 | succ k=>
  unfold WV;cases at? d i with
  | none=>simp
  | some n=>
   simp only;split
   ·omega
   ·split
    ·omega
    ·split
     ·omega
     ·split
      ·split <;> omega
      ·split
       ·exact sumW_le _ _ _
       ·omega
theorem zly {d:List SNode} (hd:NOk d):∀(k k':Nat) (i:Int),i<(k:Int)→i<(k':Int)→WV d k i=WV d k' i
 | 0,k',i,h,h'=>by
  have:at? d i=none:=by
   unfold at?;rw [if_neg (by omega)]
  cases k' <;> simp [WV,this]
 | k+1,0,i,h,h'=>by
  have:at? d i=none:=by
   unfold at?;rw [if_neg (by omega)]
  simp [WV,this]
 | k+1,k'+1,i,h,h'=>by
  cases hn:at? d i with
  | none=>simp only [WV,hn]
  | some n=>
   simp only [WV,hn]
   by_cases h4:n.1=4
   ·obtain ⟨⟨a,b⟩,c,e⟩:=hd.two _ n hn (.inl h4);rw [zly hd k k' n.2.1 (by omega) (by omega),zly hd k k' n.2.2.1 (by omega) (by omega)]
   ·by_cases h5:n.1=5
    ·obtain ⟨⟨a,b⟩,c,e⟩:=hd.two _ n hn (.inr h5);rw [zly hd k k' n.2.1 (by omega) (by omega),zly hd k k' n.2.2.1 (by omega) (by omega)]
    ·by_cases h6:n.1=6∨n.1=7
     ·obtain ⟨a,b⟩:=hd.one _ n hn (by omega);rw [zly hd k k' n.2.1 (by omega) (by omega)];simp [h4,h5]
     ·simp only [not_or] at h6;simp [h4,h5,h6.1,h6.2]
def wv (d:List SNode) (i:Int):Nat:=WV d d.length i
theorem wv_at {d:List SNode} (hd:NOk d) {i:Int} {n:SNode} (hn:at? d i=some n):wv d i =
  (if n.1=1 then 1
   else if n.1=4 then min 2 (wv d n.2.1*wv d n.2.2.1)
   else if n.1=5 then min 2 (wv d n.2.1+wv d n.2.2.1)
   else if n.1=6 then (if 0<wv d n.2.1 then 2 else 1)
   else if n.1=7 then sumW (wv d n.2.1) n.2.2.2.1.toNat (n.2.2.2.2.1+1-n.2.2.2.1).toNat
   else 0):=by
 obtain ⟨hb0,hb1⟩:=zda hn;unfold wv;rw [zly hd d.length (d.length+1) i hb1 (by omega)];simp only [WV,hn]
theorem nz_atN {d:List SNode} (hd:NOk d) {i:Int} {n:SNode} (h:at? d i=some n):nz d i =
  (if n.1=1 then true else if n.1=4 then nz d n.2.1&&nz d n.2.2.1 else if n.1=5 then nz d n.2.1||nz d n.2.2.1 else if n.1=6 then true else if n.1=7 then decide (n.2.2.2.1=0)||nz d n.2.1 else false):=by
 obtain ⟨k,rfl,hk⟩:=zqv h;have e:=nzL_at hk;have e2:nz d (k:Int)=nzN ((nzL d).take k) n:=by unfold nz;rw [zci,e];rfl
 rw [e2];unfold nzN
 by_cases h1:n.1=1
 ·simp [h1]
 ·by_cases h4:n.1=4
  ·obtain ⟨⟨a,b⟩,c,e⟩:=hd.two _ n h (.inl h4);rw [if_neg h1,if_pos h4,if_neg h1,if_pos h4,zht a b,zht c e];rfl
  ·by_cases h5:n.1=5
   ·obtain ⟨⟨a,b⟩,c,e⟩:=hd.two _ n h (.inr h5);rw [if_neg h1,if_neg h4,if_pos h5,if_neg h1,if_neg h4,if_pos h5,zht a b,zht c e];rfl
   ·by_cases h6:n.1=6
    ·simp [h6]
    ·by_cases h7:n.1=7
     ·obtain ⟨a,b⟩:=hd.one _ n h (.inr (.inl h7));rw [if_neg h1,if_neg h4,if_neg h5,if_neg h6,if_pos h7,if_neg h1,if_neg h4,if_neg h5,if_neg h6,if_pos h7,zht a b];rfl
     ·simp [h1,h4,h5,h6,h7]
theorem wv_nz {d:List SNode} (hd:NOk d):∀(k:Nat) (i:Int) (n:SNode),i<(k:Int)→at? d i=some n→(wv d i≠0↔nz d i=true)
 | 0,i,n,hi,hn=>by have:=zda hn;omega
 | k+1,i,n,hi,hn=>by
  have ih:=wv_nz hd k;rw [wv_at hd hn,nz_atN hd hn]
  by_cases h1:n.1=1
  ·simp [h1]
  ·by_cases h4:n.1=4
   ·obtain ⟨⟨a,b⟩,c,e⟩:=hd.two _ n hn (.inl h4);obtain ⟨m1,hm1⟩:=zfe hn a b;obtain ⟨m2,hm2⟩:=zfe hn c e;rw [if_neg h1,if_pos h4,if_neg h1,if_pos h4,Bool.and_eq_true,← ih _ m1 (by omega) hm1,← ih _ m2 (by omega) hm2,← Nat.mul_ne_zero_iff];omega
   ·by_cases h5:n.1=5
    ·obtain ⟨⟨a,b⟩,c,e⟩:=hd.two _ n hn (.inr h5);obtain ⟨m1,hm1⟩:=zfe hn a b;obtain ⟨m2,hm2⟩:=zfe hn c e;rw [if_neg h1,if_neg h4,if_pos h5,if_neg h1,if_neg h4,if_pos h5,Bool.or_eq_true,← ih _ m1 (by omega) hm1,← ih _ m2 (by omega) hm2];omega
    ·by_cases h6:n.1=6
     ·simp [h6];split <;> omega
     ·by_cases h7:n.1=7
      ·obtain ⟨a,b⟩:=hd.one _ n hn (.inr (.inl h7));obtain ⟨r0,r1,r2⟩:=hd.rep _ n hn h7;obtain ⟨m1,hm1⟩:=zfe hn a b;rw [if_neg h1,if_neg h4,if_neg h5,if_neg h6,if_pos h7,if_neg h1,if_neg h4,if_neg h5,if_neg h6,if_pos h7,sumW_zero,Bool.or_eq_true,← ih _ m1 (by omega) hm1,decide_eq_true_eq];constructor
       ·rintro ⟨t,h1,h2⟩;rcases zna.1 h2 with h3 | h3
        ·exact .inl (by omega)
        ·exact .inr h3
       ·rintro (h3 | h3)
        ·exact ⟨0,by omega,zna.2 (.inl (by omega))⟩
        ·exact ⟨0,by omega,zna.2 (.inr h3)⟩
      ·simp [h1,h4,h5,h6,h7]
theorem ROk.nok {d:List SNode} (h:ROk d):NOk d:=⟨h.two,h.one,h.rep,h.kind,h.ntx⟩
theorem ways_l3 {l:List Int} {a:Nat} (ha:a≤2) {e:SNode} (h1:at? l e.2.1=some (a:Int)) {t:Nat} (ht:t≤255) {Z:Int→Prop} (hZ:Z (powW a t:Int)):
  ∀(m v:Nat),v+m=t→∃k,zu.l3 l e t Z k (powW a v:Int) v
 | 0,v,hv=>by
  obtain rfl:v=t:=by omega
  exact ⟨1,fun h=>absurd (dt h) (by omega),fun _=>hZ⟩
 | m+1,v,hv=>by
  obtain ⟨k,hk⟩:=ways_l3 ha h1 ht hZ m (v+1) (by omega);have e1:(min 2 ((powW a v:Int)*(a:Int)))=(powW a (v+1):Int):=by
   have:=Int.natCast_mul (powW a v) a;rw [← powW_step ha v];omega
  have hle:=powW_le a v;have hle2:powW a v*a≤4:=by
   have:=Nat.mul_le_mul hle ha;omega
  exact ⟨k+1,fun _=>⟨a,h1,zn (by omega) (by rw [← Int.natCast_mul];omega),zn (by omega) (by omega),by rw [e1];exact hk⟩,fun h=>absurd (by omega) (df h)⟩
theorem ways_l2 {l:List Int} {a:Nat} (ha:a≤2) {e:SNode} (h1:at? l e.2.1=some (a:Int)) {lo hi:Nat} (hlo:e.2.2.2.1=lo) (hhi:e.2.2.2.2.1=hi) (hh:hi≤255) {Z:Int→Prop} (hZ:Z (sumW a lo (hi+1-lo):Int)):
  ∀(m j:Nat),j+m=hi+1-lo→∃k,zu.l2 l e Z k (sumW a lo j:Int) ((lo+j:Nat):Int)
 | 0,j,hj=>by
  obtain rfl:j=hi+1-lo:=by omega
  exact ⟨1,fun h=>absurd (dt h) (by omega),fun _=>hZ⟩
 | m+1,j,hj=>by
  obtain ⟨k,hk⟩:=ways_l2 ha h1 hlo hhi hh hZ m (j+1) (by omega);have hs:=sumW_le a lo j;have hp:=powW_le a (lo+j);have e1:(min 2 ((sumW a lo j:Int)+(powW a (lo+j):Int)))=(sumW a lo (j+1):Int):=by simp only [sumW];omega
  obtain ⟨k3,hk3⟩:=ways_l3 ha h1 (t:=lo+j) (by omega) (Z:=zu.j3 (zu.l2 l e Z k) (sumW a lo j:Int) ((lo+j:Nat):Int)) ⟨zn (by omega) (by omega),zn (by omega) (by omega),by
   rw [e1];have:(((lo+j:Nat):Int)+1)=((lo+(j+1):Nat):Int):=by omega
   rw [this];exact hk⟩ (lo+j) 0 (by omega)
  have e0:(powW a 0:Int)=1:=rfl;rw [e0] at hk3;exact ⟨k+1,fun _=>⟨k3,hk3⟩,fun h=>absurd (by omega) (df h)⟩
theorem zpw {d:List SNode} (hl:d.length≤1000) (hd:NOk d) {i:Nat} (h1:i<d.length):zu d (i:Int) (wv d (i:Int):Int):=by
 have hat:∀(k:Nat) (a:Int),0≤a→a<(k:Int)→at? ((List.range k).map fun (j:Nat)=>(wv d (j:Int):Int)) a=some (wv d a:Int):=fun k a h0 h1=>by
  obtain ⟨j,rfl⟩:∃j:Nat,a=(j:Int):=⟨a.toNat,by omega⟩;rw [zci,List.getElem?_map,List.getElem?_range (by omega)];rfl
 have key:∀(m:Nat) (k:Nat),k+m=i+1→∃f,zu.l1 d (i:Int) (zu.j1 (i:Int) (wv d (i:Int):Int)) f ((List.range k).map fun (j:Nat)=>(wv d (j:Int):Int)) (k:Int):=by
  intro m
  induction m with
  | zero=>
   intro k hk;exact ⟨1,fun h=>absurd (dt h) (by omega),fun _=>⟨_,hat k _ (by omega) (by omega),rfl⟩⟩
  | succ m ih=>
   intro k hk;obtain ⟨f,hf⟩:=ih (k+1) (by omega);obtain ⟨e,he,_⟩:=at_in (xs:=d) (i:=(k:Int)) (by omega) (by omega);have hw:=wv_at hd he;have next:∀w:Nat,min 2 w=wv d (k:Int)→zu.j2 (zu.l1 d (i:Int) (zu.j1 (i:Int) (wv d (i:Int):Int)) f) ((List.range k).map fun (j:Nat)=>(wv d (j:Int):Int)) (k:Int) (w:Int):=fun w hw=>by
    refine ⟨by simp;omega,zn (by omega) (by omega), ?_⟩;have e1:(min 2 (w:Int))=(wv d (k:Int):Int):=by rw [← hw];omega
    rw [e1];have e2:((List.range k).map fun (j:Nat)=>(wv d (j:Int):Int))++[(wv d (k:Int):Int)]=(List.range (k+1)).map fun (j:Nat)=>(wv d (j:Int):Int):=by
     rw [List.range_succ,List.map_append];rfl
    rw [e2];exact hf
   have ne:∀{a b:Int},a≠b→(a==b)=true→False:=fun h k=>h (eq_of_beq k);refine ⟨f+1,fun _=>⟨e,he,fun h=>?_,fun k1=>⟨fun h=>?_,fun k4=>⟨fun h=>?_,fun k5=>⟨fun h=>?_,fun k6=>⟨fun h=>?_,fun k7=>?_⟩⟩⟩⟩⟩,fun h=>absurd (by omega) (df h)⟩
   ·have h1:e.1=1:=eq_of_beq h;exact next 1 (by rw [hw,if_pos h1];rfl)
   ·have h1:e.1≠1:=by simpa using k1
    have h4:e.1=4:=eq_of_beq h;rw [if_neg h1,if_pos h4] at hw;obtain ⟨⟨a0,a1⟩,b0,b1⟩:=hd.two _ e he (.inl h4);have l1:=WV_le d d.length e.2.1;have l2:=WV_le d d.length e.2.2.1;have hm:wv d e.2.1*wv d e.2.2.1≤4:=by have:=Nat.mul_le_mul l1 l2;exact this
    refine ⟨_,hat k _ a0 a1,_,hat k _ b0 b1,zn (by rw [← Int.natCast_mul];omega) (by rw [← Int.natCast_mul];omega), ?_⟩;rw [← Int.natCast_mul];exact next _ hw.symm
   ·have h1:e.1≠1:=by simpa using k1
    have h4:e.1≠4:=by simpa using k4
    have h5:e.1=5:=eq_of_beq h;rw [if_neg h1,if_neg h4,if_pos h5] at hw;obtain ⟨⟨a0,a1⟩,b0,b1⟩:=hd.two _ e he (.inr h5);have l1:=WV_le d d.length e.2.1;have l2:=WV_le d d.length e.2.2.1;unfold wv at *;refine ⟨_,hat k _ a0 a1,_,hat k _ b0 b1,zn (by omega) (by omega), ?_⟩;exact next (WV d d.length e.2.1+WV d d.length e.2.2.1) hw.symm
   ·have h1:e.1≠1:=by simpa using k1
    have h4:e.1≠4:=by simpa using k4
    have h5:e.1≠5:=by simpa using k5
    have h6:e.1=6:=eq_of_beq h;rw [if_neg h1,if_neg h4,if_neg h5,if_pos h6] at hw;obtain ⟨a0,a1⟩:=hd.one _ e he (.inl h6);refine ⟨_,hat k _ a0 a1,fun h=>?_,fun h=>?_⟩
    ·exact next 2 (by rw [hw,if_pos (by have:=dt h;omega)];rfl)
    ·exact next 1 (by rw [hw,if_neg (by have:=df h;omega)];rfl)
   ·have h1:e.1≠1:=by simpa using k1
    have h4:e.1≠4:=by simpa using k4
    have h5:e.1≠5:=by simpa using k5
    have h6:e.1≠6:=by simpa using k6
    have h7:e.1=7:=eq_of_beq h;rw [if_neg h1,if_neg h4,if_neg h5,if_neg h6,if_pos h7] at hw;obtain ⟨a0,a1⟩:=hd.one _ e he (.inr (.inl h7));obtain ⟨r0,r1,r2⟩:=hd.rep _ e he h7;have hs:=sumW_le (wv d e.2.1) e.2.2.2.1.toNat (e.2.2.2.2.1+1-e.2.2.2.1).toNat;have e1:(e.2.2.2.2.1+1-e.2.2.2.1).toNat=e.2.2.2.2.1.toNat+1-e.2.2.2.1.toNat:=by omega
    have:=ways_l2 (l:=(List.range k).map fun (j:Nat)=>(wv d (j:Int):Int)) (WV_le d d.length e.2.1) (e:=e) (hat k _ a0 a1) (lo:=e.2.2.2.1.toNat) (hi:=e.2.2.2.2.1.toNat) (by omega) (by omega) (by omega)
     (Z:=zu.j2 (zu.l1 d (i:Int) (zu.j1 (i:Int) (wv d (i:Int):Int)) f) ((List.range k).map fun (j:Nat)=>(wv d (j:Int):Int)) (k:Int))
     (next _ (by rw [hw,e1];rw [e1] at hs;exact Nat.min_eq_right hs)) (e.2.2.2.2.1.toNat+1-e.2.2.2.1.toNat) 0 (by omega)
    have e2:((e.2.2.2.1.toNat+0:Nat):Int)=e.2.2.2.1:=by omega
    rw [e2] at this;exact this
   ·have h1:e.1≠1:=by simpa using k1
    have h4:e.1≠4:=by simpa using k4
    have h5:e.1≠5:=by simpa using k5
    have h6:e.1≠6:=by simpa using k6
    have h7:e.1≠7:=by simpa using k7
    rw [if_neg h1,if_neg h4,if_neg h5,if_neg h6,if_neg h7] at hw;exact next 0 (by rw [hw];rfl)
 obtain ⟨f,hf⟩:=key (i+1) 0 (by omega);exact ⟨f,by simpa using hf⟩
theorem first8_ok {d:List SNode} (hl:d.length≤1000) (hd:NOk d):∃r,zcl d r∧(r.2=false→∀(i:Int) n,at? d i=some n→(n.1=6∨n.1=7)→nz d n.2.1=false):=by
 have key:∀(m i:Nat),i+m=d.length→(∀(k:Int) n,k<(i:Int)→at? d k=some n→(n.1=6∨n.1=7)→nz d n.2.1=false)→∃q:(Int × Bool) × Nat,zcl.l1 d q.1 (zcl.j1 q.1) q.2 (i:Int)∧(q.1.2=false→∀(i:Int) n,at? d i=some n→(n.1=6∨n.1=7)→nz d n.2.1=false):=by
  intro m
  induction m with
  | zero=>
   intro i hi hk;exact ⟨((0,false),1),⟨fun h=>absurd (dt h) (by omega),fun _=>rfl⟩,fun _ k n hn=>hk k n (by have:=zda hn;omega) hn⟩
  | succ m ih=>
   intro i hi hk;obtain ⟨e,he,_⟩:=at_in (xs:=d) (i:=(i:Int)) (by omega) (by omega);have hw:∃w,((((e.1==6)||(e.1==7)))=true→zu d e.2.1 w∧(w=0→nz d e.2.1=false)):=by
    by_cases hkk:e.1=6∨e.1=7
    ·obtain ⟨a0,a1⟩:=hd.one _ e he (by omega);obtain ⟨mm,hm⟩:=zfe he a0 a1;obtain ⟨j,hj⟩:∃j:Nat,e.2.1=(j:Int):=⟨e.2.1.toNat,by omega⟩;refine ⟨(wv d e.2.1:Int),fun _=>⟨?_,fun h0=>?_⟩⟩
     ·rw [hj];exact zpw hl hd (by omega)
     ·have:=wv_nz hd (d.length) e.2.1 mm (by omega) hm;cases hz:nz d e.2.1
      ·rfl
      ·have:=this.2 hz;omega
    ·exact ⟨0,fun h=>absurd (by simpa using h) hkk⟩
   obtain ⟨w,hw⟩:=hw;cases hb:(((e.1==6)||(e.1==7))&&(w != 0))
   ·obtain ⟨q,hq,hq2⟩:=ih (i+1) (by omega) (fun k n hki hn hkk=>by
     by_cases hk2:k=(i:Int)
     ·subst hk2;rw [he] at hn;cases hn;have h6:((e.1==6)||(e.1==7))=true:=by simpa using hkk
      rw [h6] at hb;simp at hb;exact (hw h6).2 hb
     ·exact hk k n (by omega) hn hkk)
    exact ⟨(q.1,q.2+1),⟨fun _=>⟨e,he,e,fun _=>he,w,fun h=>(hw h).1,(fun h=>by rw [hb] at h;cases h),fun _=>⟨zn (by omega) (by omega),by simpa using hq⟩⟩,fun h=>absurd (by omega) (df h)⟩,hq2⟩
   ·exact ⟨(((i:Int),true),1),⟨fun _=>⟨e,he,e,fun _=>he,w,fun h=>(hw h).1,fun _=>rfl,fun h=>by rw [hb] at h;cases h⟩,fun h=>absurd (by omega) (df h)⟩,(fun h=>by cases h)⟩
 obtain ⟨q,hq,hq2⟩:=key d.length 0 (by omega) (fun k n hk hn=>by have:=zda hn;omega);exact ⟨q.1,⟨q.2,hq⟩,hq2⟩
structure Rt (d:List SNode):Prop extends ROk d where
 tr:Tr d 0 ((d.length:Int)-1)
theorem Rt.ne {d:List SNode} (h:Rt d):d≠[]:=fun e=>by
 have:=h.tr.le;subst e;simp at this
theorem right_ok {d:List SNode} (hl:d.length≤1000) (ht:∀n∈d,n.2.2.2.2.2.2.length≤140737488351232):∃r,zgv d r∧(r=true→Rt d):=by
 obtain ⟨f,hf,ho⟩:=form_ex hl ht;cases f
 ·exact ⟨false,⟨false,hf,fun _=>rfl,(fun h=>by cases h)⟩,(fun h=>by cases h)⟩
 ·have hd:=(ho rfl).nok;obtain ⟨w,hw,hw2⟩:=first8_ok hl hd;refine ⟨!w.2,⟨true,hf,(fun h=>by cases h),fun _=>⟨w,hw,rfl⟩⟩,fun h=>?_⟩;have:=hw2 (by simpa using h);exact ⟨⟨hd.two,hd.one,hd.rep,hd.kind,hd.ntx,this⟩,ho rfl⟩
def CV (d:List SNode):Nat→Int→List (List SItem)
 | 0,_=>[]
 | k+1,i=>match at? d i with
  | none=>[]
  | some n=>
   if n.1=1 then []
   else if n.1=3 then [[(3,i,0,0)]]
   else if n.1=4 then (CV d k n.2.1).map (·++[(1,n.2.2.1,0,0)])++CV d k n.2.2.1
   else if n.1=5 then CV d k n.2.1++CV d k n.2.2.1
   else if n.1=6 then (CV d k n.2.1).map (·++[(1,i,0,0)])
   else if n.1=7 then (CV d k n.2.1).map (·++[(2,i,max (n.2.2.2.1-1) 0,n.2.2.2.2.1-1)])
   else [[(1,i,0,0)]]
theorem PM_CV (d:List SNode):∀(k:Nat) (i:Int),∀p∈(PM d k i).1,p∈CV d k i
 | 0,i,p,hp=>by simp [PM] at hp
 | k+1,i,p,hp=>by
  unfold PM at hp;unfold CV;cases hn:at? d i with
  | none=>rw [hn] at hp;simp at hp
  | some n=>
   rw [hn] at hp;have a:=PM_CV d k n.2.1;have b:=PM_CV d k n.2.2.1;simp only at hp ⊢
   by_cases h1:n.1=1
   ·simp [h1] at hp
   ·rw [if_neg h1] at hp ⊢
    by_cases h3:n.1=3
    ·rw [if_pos h3] at hp ⊢;exact hp
    ·rw [if_neg h3] at hp ⊢
     by_cases h4:n.1=4
     ·rw [if_pos h4] at hp ⊢;rcases List.mem_append.1 hp with hp | hp
      ·obtain ⟨q,hq,rfl⟩:=List.mem_map.1 hp;exact List.mem_append.2 (.inl (List.mem_map.2 ⟨q,a q hq,rfl⟩))
      ·obtain ⟨l,hl,hp⟩:=List.mem_flatten.1 hp;rw [List.mem_replicate.1 hl |>.2] at hp;exact List.mem_append.2 (.inr (b p hp))
     ·rw [if_neg h4] at hp ⊢
      by_cases h5:n.1=5
      ·rw [if_pos h5] at hp ⊢;rcases List.mem_append.1 hp with hp | hp
       ·exact List.mem_append.2 (.inl (a p hp))
       ·exact List.mem_append.2 (.inr (b p hp))
      ·rw [if_neg h5] at hp ⊢
       by_cases h6:n.1=6
       ·rw [if_pos h6] at hp ⊢;obtain ⟨q,hq,rfl⟩:=List.mem_map.1 hp;exact List.mem_map.2 ⟨q,a q hq,rfl⟩
       ·rw [if_neg h6] at hp ⊢
        by_cases h7:n.1=7
        ·rw [if_pos h7] at hp ⊢;simp only at hp;split at hp
         ·obtain ⟨q,hq,rfl⟩:=List.mem_map.1 hp;exact List.mem_map.2 ⟨q,a q hq,rfl⟩
         ·cases hp
        ·rw [if_neg h7] at hp ⊢;exact hp
def CI (d:List SNode) (x:SItem):List (List SItem):=
 if x.1=1 then CV d d.length x.2.1
 else if x.1=2 then (match at? d x.2.1 with | some n=>(CV d d.length n.2.1).map (·++[(2,x.2.1,max (x.2.2.1-1) 0,x.2.2.2-1)]) | none=>[])
 else [[x]]
def CS (d:List SNode):List SItem→List (List SItem)
 | []=>[[]]
 | x::rest=>(CI d x).map (·++rest)++CS d rest
theorem pmI_CI (d:List SNode) (x:SItem):∀p∈pmI d x,p∈CI d x:=by
 intro p hp;unfold pmI at hp;unfold CI
 by_cases h1:x.1=1
 ·rw [if_pos h1] at hp ⊢;exact PM_CV d _ _ p hp
 ·rw [if_neg h1] at hp ⊢
  by_cases h2:x.1=2
  ·rw [if_pos h2] at hp ⊢;cases hn:at? d x.2.1 with
   | none=>rw [hn] at hp;cases hp
   | some n=>
    rw [hn] at hp;simp only at hp ⊢;split at hp
    ·obtain ⟨q,hq,rfl⟩:=List.mem_map.1 hp;exact List.mem_map.2 ⟨q,PM_CV d _ _ q hq,rfl⟩
    ·cases hp
  ·rw [if_neg h2] at hp ⊢;split at hp
   ·cases hp
   ·exact hp
theorem hds_CS (d:List SNode):∀(s:List SItem),∀t∈hds d s,t∈CS d s
 | [],t,ht=>ht
 | x::rest,t,ht=>by
  rcases List.mem_append.1 ht with ht | ht
  ·obtain ⟨q,hq,rfl⟩:=List.mem_map.1 ht;exact List.mem_append.2 (.inl (List.mem_map.2 ⟨q,pmI_CI d x q hq,rfl⟩))
  ·obtain ⟨l,hl,hp⟩:=List.mem_flatten.1 ht;rw [List.mem_replicate.1 hl |>.2] at hp;exact List.mem_append.2 (.inr (hds_CS d rest t hp))
structure BrOk (l:List SBranch):Prop where
 many:∀b∈l,0≤b.2∧b.2≤2
 len:∀b∈l,b.1.length≤1000
theorem zj3 {s:List SItem} {many:Int}:∀(l:List SBranch) (i:Nat),(∀b∈l.take i,¬ ze3 s b.1=0∧¬ ze3 s b.1<0)→zlx s many l=l.take i++zlx s many (l.drop i)
 | l,0,_=>rfl
 | [],i+1,_=>by simp
 | b::l,i+1,h=>by
  have hb:=h b (by simp)
  conv=>lhs;unfold zlx
  rw [if_neg hb.1,if_neg hb.2,zj3 l i fun c hc=>h c (by simp [hc])];rfl
theorem zi4 {l:List SBranch} (hs:l.Pairwise (fun a b=>ze3 a.1 b.1<0)) (hb:BrOk l) (hl:l.length≤2000000000) {s:List SItem} (hsl:s.length≤1000) {many:Int} (hm:0≤many∧many≤2):zb3 l s many (zlx s many l):=by
 refine uptoK (P:=fun k (q:List SBranch × Bool) v=>zb3.l1 l s many _ k q.1 q.2 v) l.length
  (fun i q=>(q.2=false→q.1=l.take i∧∀b∈l.take i,¬ ze3 s b.1=0∧¬ ze3 s b.1<0)∧(q.2=true→q.1++l.drop i=zlx s many l∧∀b∈l.drop i,ze3 s b.1<0)) ?_ ?_ ([],false) ⟨fun _=>⟨by simp,by simp⟩,(fun h=>by cases h)⟩
 ·rintro i ⟨out,done⟩ k hi ⟨h1,h2⟩ hk;have hol:out.length≤l.length+1:=by
   cases done
   ·have k1:=(h1 rfl).1;simp only at k1;rw [k1];simp;omega
   ·have:=congrArg List.length (h2 rfl).1;have h3:=addB_len s many l;simp at this;omega
  have hbm:l[i]∈l:=List.getElem_mem hi;have hmb:=hb.many _ hbm;have hlb:=hb.len _ hbm;have hat:at? l (i:Int)=some l[i]:=by rw [zci];simp [hi]
  have hdr:l.drop i=l[i]::l.drop (i+1):=(List.getElem_cons_drop hi).symm;have htk:l.take (i+1)=l.take i++[l[i]]:=List.take_succ_eq_append_getElem hi;have hsrt:∀b∈l.drop (i+1),ze3 l[i].1 b.1<0:=by
   have:=hs.sublist (List.drop_sublist i l);rw [hdr,List.pairwise_cons] at this;exact this.1
  refine ⟨fun _=>⟨l[i],hat,_,zem hsl hlb,fun h0=>?_,fun h0=>⟨fun hc=>?_,fun hc=>?_⟩⟩,fun h=>absurd (by omega) (df h)⟩
  ·have e0:ze3 s l[i].1=0:=by simpa using h0
   refine ⟨l[i],hat,zn (by omega) (by omega),by simp;omega,zn (by omega) (by omega),hk (out++[(s,min 2 (l[i].2+many))],true) ⟨(fun h=>by cases h),fun _=>?_⟩⟩;cases done
   ·obtain ⟨k1,k2⟩:=h1 rfl;simp only at k1;refine ⟨?_,fun b hbb=>by rw [zen.1 e0];exact hsrt b hbb⟩;rw [zj3 l i k2,hdr,k1]
    conv=>rhs;unfold zlx
    rw [if_pos e0];simp
   ·obtain ⟨k1,k2⟩:=h2 rfl;have:=k2 l[i] (hdr ▸ List.mem_cons_self);omega
  ·simp only [Bool.and_eq_true,decide_eq_true_eq,Bool.not_eq_true'] at hc;obtain ⟨c1,c2⟩:=hc;subst c2;obtain ⟨k1,k2⟩:=h1 rfl;simp only at k1;refine ⟨by simp;omega,l[i],hat,by simp;omega,zn (by omega) (by omega),hk (out++[(s,many)]++[l[i]],true) ⟨(fun h=>by cases h),fun _=>⟨?_,fun b hbb=>zfy c1 (hsrt b hbb)⟩⟩⟩;rw [zj3 l i k2,hdr,k1]
   conv=>rhs;unfold zlx
   rw [if_neg (by omega),if_pos c1];simp
  ·have e0:¬ ze3 s l[i].1=0:=by simpa using h0
   refine ⟨l[i],hat,by simp;omega,zn (by omega) (by omega),hk (out++[l[i]],done) ⟨fun hd=>?_,fun hd=>?_⟩⟩
   ·simp only at hd;subst hd;obtain ⟨k1,k2⟩:=h1 rfl;simp only at k1;simp only [Bool.not_false,Bool.and_true,decide_eq_false_iff_not] at hc;refine ⟨by rw [htk,k1],fun b hbb=>?_⟩;rw [htk] at hbb;rcases List.mem_append.1 hbb with hbb | hbb
    ·exact k2 b hbb
    ·rw [List.mem_singleton.1 hbb];exact ⟨e0,hc⟩
   ·simp only at hd;subst hd;obtain ⟨k1,k2⟩:=h2 rfl;refine ⟨?_,fun b hbb=>k2 b (hdr ▸ List.mem_cons_of_mem _ hbb)⟩;rw [← k1,hdr];simp
 ·rintro ⟨out,done⟩ ⟨h1,h2⟩ k;refine ⟨fun h=>absurd (dt h) (by omega),fun _=>⟨fun hd=>?_,fun hd=>?_⟩⟩
  ·have hd':done=false:=by simpa using hd
   subst hd';obtain ⟨k1,k2⟩:=h1 rfl;simp only at k1;rw [List.take_length] at k1;refine ⟨by rw [k1];simp;omega, ?_⟩;rw [zj3 l l.length k2,k1];simp [zlx]
  ·have hd':done=true:=by simpa using hd
   subst hd';obtain ⟨k1,k2⟩:=h2 rfl;rw [← k1];simp
theorem Can.brok {f:List SItem→Nat} {B:List SBranch} (h:Can f B) (hl:∀t,f t≠0→t.length≤1000):BrOk B:=
 ⟨fun b hb=>by have:=(h.many hb).2.2;omega,fun b hb=>hl _ (h.many hb).2.1⟩
theorem into_in {d:List SNode} (hd:ROk d) (hdl:d.length≤400) (hd0:∃n,at? d 0=some n) (U:List (List SItem)) (hU:U.length≤1000000000) (hU1:∀t∈U,t.length≤1000):∀(h:Nat) (s:List SItem) (L:List (List SItem)),lv d h s=some L→Vs d 400 s→∀(f:List SItem→Nat) (B:List SBranch),Can f B→(∀t,f t≠0→t∈U)→(∀t∈L,t∈U)→∃r,zby.n h d s B r∧Can (fun t=>f t+L.count t) r
 | 0,s,L,hL,_,_,_,_,_,_=>by simp [lv] at hL
 | h+1,s,L,hL,hv,f,B,hB,hf,hLU=>by
  have hlen:=hv.len;have hBl:=znt hB hf;have hBo:=hB.brok fun t ht=>hU1 t (hf t ht);cases hr:rdy d s with
  | true=>
   have e:L=[s]:=by
    unfold lv at hL;rw [if_pos hr] at hL;exact (Option.some.inj hL).symm
   subst e;refine ⟨zlx s 1 B,⟨true,hr ▸ zka hv.form hd0,fun _=>⟨s,zqw (by simp) (by omega),_,zi4 hB.srt hBo (by omega) (by omega) (by omega),rfl⟩,(fun h=>by cases h)⟩, ?_⟩;refine (hB.add s (n:=1) (by omega)).congr fun t=>?_;simp only [List.count_singleton,beq_iff_eq]
   by_cases ht:t=s
   ·subst ht;simp
   ·simp [ht,Ne.symm ht]
  | false=>
   have hopn:=hv.opn hd hr;obtain ⟨ls,hls,hlf⟩:∃ls,(opn d s).mapM (lv d h)=some ls∧ls.flatten=L:=by
    unfold lv at hL;rw [if_neg (by rw [hr];simp)] at hL;exact Option.map_eq_some_iff.1 hL
   have hlsl:ls.length=(opn d s).length:=zmm hls;have hol:=opn_len (d:=d) s;have key:∀(m i:Nat) (B':List SBranch),i+m=(opn d s).length→Can (fun t=>f t+(ls.take i).flatten.count t) B'→∃(r:List SBranch) (k:Nat),zby.l1 (zby.n h) d (opn d s) (zby.j1 r) k B' (i:Int)∧Can (fun t=>f t+L.count t) r:=by
    intro m
    induction m with
    | zero=>
     intro i B' hi hB';refine ⟨B',1,⟨fun h=>absurd (dt h) (by omega),fun _=>rfl⟩, ?_⟩;rw [List.take_of_length_le (by omega),hlf] at hB';exact hB'
    | succ m ih=>
     intro i B' hi hB';have hil:i<(opn d s).length:=by omega
     obtain ⟨li,h1,h2⟩:=zqb hls hil;have hsub:∀t∈li,t∈L:=fun t ht=>by
      rw [← hlf];exact List.mem_flatten.2 ⟨li,List.mem_of_getElem? h2,ht⟩
     have hsub2:∀t,(ls.take i).flatten.count t≠0→t∈U:=fun t ht=>by
      have hp:t∈(ls.take i).flatten:=List.count_pos_iff.1 (by omega);obtain ⟨l,hl,ht⟩:=List.mem_flatten.1 hp;exact hLU t (by rw [← hlf];exact List.mem_flatten.2 ⟨l,List.mem_of_mem_take hl,ht⟩)
     obtain ⟨r1,hr1,hr2⟩:=into_in hd hdl hd0 U hU hU1 h _ li h1 (hopn _ (List.getElem_mem hil)) _ B' hB' (fun t ht=>by
      by_cases h0:f t=0
      ·exact hsub2 t (by omega)
      ·exact hf t h0) (fun t ht=>hLU t (hsub t ht))
     obtain ⟨r,k,hk1,hk2⟩:=ih (i+1) r1 (by omega) (hr2.congr fun t=>by rw [take_flat h2,List.count_append,Nat.add_assoc]);exact ⟨r,k+1,⟨fun _=>⟨_,by rw [zci];simp [hil],r1,hr1,zn (by omega) (by omega),by simpa using hk1⟩,fun h=>absurd (by omega) (df h)⟩,hk2⟩
   obtain ⟨r,k,hk1,hk2⟩:=key (opn d s).length 0 B (by omega) (hB.congr fun t=>by simp);exact ⟨r,⟨false,hr ▸ zka hv.form hd0,(fun h=>by cases h),fun _=>⟨_,zpo hd hv.form hr (by omega) hd0,k,hk1⟩⟩,hk2⟩
theorem zoz {α:Type} [BEq α] [LawfulBEq α]:∀(n:Nat) (l:List α),l.length≤n→l.eraseDups.Nodup
 | _,[],_=>by simp
 | 0,x::l,h=>by simp at h
 | n+1,x::l,h=>by
  rw [List.eraseDups_cons,List.nodup_cons];refine ⟨fun hx=>?_,zoz n _ (Nat.le_trans (List.length_filter_le _ _) (by simpa using h))⟩;have:=List.mem_eraseDups.1 hx;simp at this
theorem CV_tr {d:List SNode} {f i:Int} (h:Tr d f i):∀k,((CV d k i).length:Int)≤i-f+1:=by
 induction h with
 | leaf he hk hx h0=>
  rename_i i e
  intro k;cases k with
  | zero=>simp [CV]
  | succ k=>
   unfold CV;rw [he];simp only;rcases hk with h | h | h
   ·simp [h]
   ·simp [h]
   ·simp [h]
 | one he hk ha hb hr t ih=>
  rename_i f i e
  intro k;have hle:=t.le;cases k with
  | zero=>simp [CV];omega
  | succ k=>
   have:=ih k;unfold CV;rw [he];simp only;rw [if_neg (by omega),if_neg (by omega),if_neg (by omega),if_neg (by omega),ha];split
   ·rw [List.length_map];omega
   ·split
    ·rw [List.length_map];omega
    ·simp;omega
 | two he hk ha hb t1 t2 i1 i2=>
  rename_i f p i e
  intro k;have h1:=t1.le;have h2:=t2.le;cases k with
  | zero=>simp [CV];omega
  | succ k=>
   have a1:=i1 k;have a2:=i2 k;unfold CV;rw [he];simp only;rw [if_neg (by omega),if_neg (by omega),ha,hb];split
   ·rw [List.length_append,List.length_map];omega
   ·split
    ·rw [List.length_append];omega
    ·omega
theorem CV_few {d:List SNode} (h:Rt d) (k:Nat) (i:Int):(CV d k i).length≤d.length+1:=by
 cases hn:at? d i with
 | none=>cases k <;> simp [CV,hn]
 | some n=>
  obtain ⟨g,hg⟩:=h.tr.at hn;have h1:=CV_tr hg k;have h2:=hg.le;have h3:=hg.lt;omega
theorem CS_few {d:List SNode} (h:Rt d):∀s:List SItem,(CS d s).length≤s.length*(d.length+1)+1
 | []=>by simp [CS]
 | x::rest=>by
  have h1:=CS_few h rest;have h2:(CI d x).length≤d.length+1:=by
   unfold CI;split
   ·exact CV_few h _ _
   ·split
    ·split
     ·rw [List.length_map];exact CV_few h _ _
     ·simp
    ·simp
  simp only [CS,List.length_append,List.length_map,List.length_cons,Nat.succ_mul];omega
structure Sm (d:List SNode) (s:List SItem):Prop where
 rt:Rt d
 len:d.length≤24
 txt:∀n∈d,n.2.2.2.2.2.2.length≤140737488351232
 form:zd4 d s=true
 slen:s.length≤400
theorem Sm.dok {d:List SNode} {s:List SItem} (h:Sm d s):DOk d:=⟨by have:=h.len;omega,fun n hn=>by have:=h.txt n hn;omega⟩
theorem Sm.ne {d:List SNode} {s:List SItem} (h:Sm d s):∃n,at? d 0=some n:=by
 have:=h.rt.ne;cases d with
 | nil=>exact absurd rfl this
 | cons n d=>exact ⟨n,rfl⟩
theorem Sm.vs {d:List SNode} {s:List SItem} (h:Sm d s):Vs d 400 s:=Vs.start h.form (by have:=h.slen;omega)
theorem zlw {d:List SNode} {s:List SItem} (h:Sm d s):∃B,zfv d s B∧zfr d s B∧Can (fun t=>(hds d s).count t) B:=by
 have hd:=h.rt.toROk;obtain ⟨L,⟨k,hk⟩,hp⟩:=hds_lv hd s h.form;have hU:(CS d s).length≤1000000000:=by
  have h1:=CS_few h.rt s;have h4:s.length*(d.length+1)≤400*25:=Nat.mul_le_mul h.slen (by have:=h.len;omega);omega
 have hLU:∀t∈L,t∈CS d s:=fun t ht=>hds_CS d s t (hp.mem_iff.1 ht);have hvs:=lv_vs hd k s L hk h.vs;have hLU2:∀t∈L,t∈L.eraseDups:=fun t ht=>List.mem_eraseDups.2 ht;have hUl:L.eraseDups.length≤1000000000:=Nat.le_trans (zki (zoz _ L (Nat.le_refl _)) fun t ht=>hLU t (List.mem_eraseDups.1 ht)) hU;have hU1:∀t∈L.eraseDups,t.length≤1000:=fun t ht=>by
  have:=(hvs t (List.mem_eraseDups.1 ht)).1.len;have:=h.len;omega
 obtain ⟨B,hB1,hB2⟩:=into_in hd (by have:=h.len;omega) h.ne L.eraseDups hUl hU1 k s L hk h.vs (fun _=>0) [] Can.nil (fun t ht=>absurd rfl ht) hLU2;have hB3:Can (fun t=>L.count t) B:=hB2.congr fun t=>by simp
 have hBl:=znt hB3 (U:=L.eraseDups) fun t ht=>hLU2 t (List.count_pos_iff.1 (by omega));exact ⟨B,⟨hd,h.dok,by have:=h.len;omega,h.rt.ne,h.form,by have:=h.slen;omega,by omega,k,L,hk,hB3⟩,⟨B,⟨k,hB1⟩,rfl⟩,hB3.congr fun t=>by rw [hp.count_eq]⟩
theorem zqm {s:List SItem} (hs:s.length≤1000) (hr:∀x∈s,ItR x):zc6 s (zet s):=by
 refine ⟨s,clone_in hs, ?_⟩;refine zg1 (P:=fun k (t:List SItem) v=>zc6.l1 s (zet s) _ k t v) s.length (fun i t=>t=(s.take i).map zlg++s.drop i∧(s.take i).any zlf=false) ?_ ?_ _ ⟨by simp,by simp⟩
 ·rintro i t hi ⟨rfl,hb⟩;have hl:((s.take i).map zlg).length=i:=by simp;omega
  have hat:at? ((s.take i).map zlg++s.drop i) (i:Int)=some s[i]:=by
   rw [zci,List.getElem?_append_right (by omega),hl,Nat.sub_self];simp [hi]
  have hset:∀y,((s.take i).map zlg++s.drop i).set i y=(s.take i).map zlg++[y]++s.drop (i+1):=fun y=>by
   rw [List.set_append_right _ _ (by omega),hl,Nat.sub_self,List.drop_eq_getElem_cons hi,List.set_cons_zero];simp
  have hnext:(s.take (i+1)).map zlg++s.drop (i+1)=(s.take i).map zlg++[zlg s[i]]++s.drop (i+1):=by
   rw [List.take_succ_eq_append_getElem hi,List.map_append];rfl
  have hri:=(hr _ (List.getElem_mem hi)).2.2.1;rw [zjc] at hri
  by_cases h5:s[i].1=5
  ·by_cases hlo:s[i].2.2.1≤0
   ·have hbad:zlf s[i]=true:=by simp [zlf,h5,hlo]
    refine .inl fun k=>⟨fun _=>⟨_,hat,fun h=>by simp [h5] at h,fun _=>⟨fun _=>?_,fun h=>absurd hlo (df h)⟩⟩,fun h=>absurd (by omega) (df h)⟩;unfold zet;rw [if_pos (any_of hi hbad)]
   ·have hbad:zlf s[i]=false:=by simp [zlf,hlo]
    refine .inr ⟨_,⟨rfl,by rw [zmp hi,hb,hbad];rfl⟩,fun k h=>⟨fun _=>⟨_,hat,fun h=>by simp [h5] at h,fun _=>⟨fun h=>absurd (dt h) hlo,fun _=>⟨_,hat,zn (by omega) (by omega),_,hat,zn (by omega) (by omega), ?_⟩⟩⟩,fun h=>absurd (by omega) (df h)⟩⟩;rw [hnext] at h;rw [Int.toNat_natCast,hset];have e:zlg s[i]=(s[i].1,s[i].2.1,s[i].2.2.1-1,s[i].2.2.2):=by unfold zlg;rw [if_pos h5]
    rw [← e];exact h
  ·have hbad:zlf s[i]=false:=by simp [zlf,h5]
   refine .inr ⟨_,⟨rfl,by rw [zmp hi,hb,hbad];rfl⟩,fun k h=>⟨fun _=>⟨_,hat,fun _=>⟨zn (by omega) (by omega), ?_⟩,fun h=>by simp at h;exact absurd h h5⟩,fun h=>absurd (by omega) (df h)⟩⟩;rw [hnext] at h;have e:zlg s[i]=s[i]:=by unfold zlg;rw [if_neg h5]
   rw [e] at h;rw [List.drop_eq_getElem_cons hi];simpa using h
 ·rintro t ⟨rfl,hb⟩ k;refine ⟨fun h=>absurd (dt h) (by omega),fun _=>?_⟩;rw [List.take_length] at hb;show zet s=_;unfold zet;rw [if_neg (by rw [hb];simp)];simp
theorem zoc {s:List SItem} (hs:s.length≤1000) (hr:∀x∈s,ItR x):zbi s (zet s):=by
 refine zg1 (P:=fun k (t:List SItem) v=>zbi.l1 s (zet s) _ k t v) s.length (fun i t=>t=(s.take i).map zlg∧(s.take i).any zlf=false) ?_ ?_ _ ⟨by simp,by simp⟩
 ·rintro i t hi ⟨rfl,hb⟩;have hl:((s.take i).map zlg).length=i:=by simp;omega
  have hat:at? s (i:Int)=some s[i]:=by rw [zci];simp [hi]
  have hnext:(s.take (i+1)).map zlg=(s.take i).map zlg++[zlg s[i]]:=by
   rw [List.take_succ_eq_append_getElem hi,List.map_append];rfl
  have hri:=(hr _ (List.getElem_mem hi)).2.2.1;rw [zjc] at hri;have hj:∀k,zbi.l1 s (zet s) (zbi.j1 (zet s)) k ((s.take (i+1)).map zlg) ((i:Int)+1)→zbi.j2 (zbi.l1 s (zet s) (zbi.j1 (zet s)) k) ((s.take i).map zlg) (i:Int) (zlg s[i]):=fun k h=>by
   refine ⟨by rw [hl];simp only [List.length_cons,List.length_nil];omega,zn (by omega) (by omega), ?_⟩;rw [hnext] at h;exact h
  by_cases h5:s[i].1=5
  ·by_cases hlo:s[i].2.2.1≤0
   ·have hbad:zlf s[i]=true:=by simp [zlf,h5,hlo]
    refine .inl fun k=>⟨fun _=>⟨_,hat,fun _=>⟨fun _=>?_,fun h=>absurd hlo (df h)⟩,fun h=>by simp [h5] at h⟩,fun h=>absurd (by omega) (df h)⟩;unfold zet;rw [if_pos (any_of hi hbad)]
   ·have hbad:zlf s[i]=false:=by simp [zlf,hlo]
    refine .inr ⟨_,⟨rfl,by rw [zmp hi,hb,hbad];rfl⟩,fun k h=>⟨fun _=>⟨_,hat,fun _=>⟨fun h=>absurd (dt h) hlo,fun _=>⟨zn (by omega) (by omega), ?_⟩⟩,fun h=>by simp [h5] at h⟩,fun h=>absurd (by omega) (df h)⟩⟩;have:=hj k h;unfold zlg at this;rw [if_pos h5] at this;exact this
  ·have hbad:zlf s[i]=false:=by simp [zlf,h5]
   refine .inr ⟨_,⟨rfl,by rw [zmp hi,hb,hbad];rfl⟩,fun k h=>⟨fun _=>⟨_,hat,fun h=>by simp at h;exact absurd h h5,fun _=>?_⟩,fun h=>absurd (by omega) (df h)⟩⟩;have:=hj k h;unfold zlg at this;rw [if_neg h5] at this;exact this
 ·rintro t ⟨rfl,hb⟩ k;refine ⟨fun h=>absurd (dt h) (by omega),fun _=>?_⟩;rw [List.take_length] at hb;show zet s=_;unfold zet;rw [if_neg (by rw [hb];simp),List.take_length]
theorem zmb {a:Cl} {n:Nat} (hn:n<256):zgb a (n:Int) (a.has n):=by
 refine ⟨⟨by omega,by omega⟩,_,rfl, ?_⟩;rw [show ((n:Int) / 64)=((n / 64:Nat):Int) by omega,show ((n:Int) % 64)=((n % 64:Nat):Int) by omega];show _=(andI (shrI (((a.word ((n / 64:Nat):Int).toNat):Nat):Int) _) 1==1);rw [Int.toNat_natCast,shr_bit (Nat.mod_lt _ (by omega)),has_w hn]
theorem zma {a:Cl} {c:Int} (hc:InR .u8 c):zgb a c (a.has c.toNat):=by
 obtain ⟨n,hn,rfl⟩:=u8_of hc;simpa using zmb (a:=a) hn
theorem zil {a:Cl} {i:Nat} (hi:i<256):zgb a ((i:Int) % 256) (a.has i):=by
 rw [show ((i:Int) % 256)=(i:Int) by omega];exact zmb hi
theorem class_Add_in {a:Cl} {l:List Int} (hl:∀x∈l,InR .u8 x) (hn:l.length<9223372036854775807):zdv a l (a.addL l):=by
 refine zg1 (P:=fun k (s:Cl) v=>zdv.l1 l _ k s v) l.length (fun i s=>s=a.addL (l.take i)) ?_ ?_ a (by simp [Cl.addL])
 ·rintro i s hi rfl;refine .inr ⟨a.addL (l.take (i+1)),rfl,fun k h=>?_⟩;refine ⟨fun _=>?_,fun h=>absurd (by omega) (df h)⟩;obtain ⟨n,hn,he⟩:=u8_of (hl l[i] (List.getElem_mem hi));refine ⟨l[i],by rw [zci];simp [hi], ?_, ?_,zn (by omega) (by omega), ?_⟩
  ·rw [he];omega
  ·rw [he];omega
  ·rw [he,show ((n:Int) / 64)=((n / 64:Nat):Int) by omega,show ((n:Int) % 64)=((n % 64:Nat):Int) by omega,put_words hn];have:(a.addL (l.take i)).put n=a.addL (l.take (i+1)):=by
    rw [List.take_succ_eq_append_getElem hi];simp [Cl.addL,he]
   rw [this];exact h
 ·rintro s rfl k;exact ⟨fun h=>absurd (dt h) (by omega),fun _=>by simp [zdv.j1]⟩
theorem zns {f t:Int}:zd6 f t (Cl.row f t):=by
 refine zg1 (P:=fun k (s:Cl) v=>zd6.l1 f t _ k s v) 256 (fun i s=>∀n,n<256→s.has n=(decide (n<i)&&(Cl.row f t).has n)) ?_ ?_ _ (by intro n _;simp [has_zero])
 ·intro i s hi hs;refine .inr ⟨if (decide (f≤(i:Int))&&decide ((i:Int)≤t))=true then s.put i else s, ?_,fun k h=>?_⟩
  ·intro n hn;split
   ·rename_i hc
    rw [has_put hi,hs n hn,has_row hn]
    by_cases e:i=n
    ·subst e;simp [hc]
    ·simp only [e,decide_false,Bool.or_false]
     congr 1
     apply decide_eq_decide.2;omega
   ·rename_i hc
    rw [hs n hn,has_row hn]
    by_cases e:i=n
    ·subst e;simp [hc]
    ·congr 1
     apply decide_eq_decide.2;omega
  ·refine ⟨fun _=>?_,fun h=>absurd (by omega) (df h)⟩;rw [show ((i:Int) % 256)=i by omega];refine ⟨_,rfl,fun hc=>?_,fun hc=>?_⟩
   ·rw [if_pos hc] at h;refine ⟨s.put i, ?_,zn (by omega) (by omega),h⟩;have:=class_Add_in (a:=s) (l:=[(i:Int)]) (by simpa using u8_nat hi) (by simp);simpa [Cl.addL] using this
   ·rw [if_neg (by simp [hc])] at h;exact ⟨zn (by omega) (by omega),h⟩
 ·intro s hs k;refine ⟨fun h=>absurd (dt h) (by omega),fun _=>?_⟩;show Cl.row f t=s;apply Cl.ext;intro c hc;rw [hs c hc];simp [hc]
theorem words_up {P:Nat→Cl→Int→Prop} {a r:Cl} (g:Nat→Nat→Nat)
  (hr:∀i,i<4→r.word i=g i (a.word i))
  (hs:∀k (i:Nat) (s:Cl) (v:Int),i<4→s.word i=a.word i→v=((g i (a.word i):Nat):Int)→P k (s.setw (i:Int) v) ((i:Int)+1)→P (k+1) s (i:Int))
  (hx:∀k,P (k+1) r 4):∃k,P k a 0:=by
 refine zg1 (P:=P) 4 (fun i s=>∀j,j<4→s.word j=if j<i then r.word j else a.word j) ?_ ?_ a (by intro j hj;simp)
 ·intro i s hi h;have hv:((g i (a.word i):Nat):Int).toNat<2 ^ 64:=by rw [Int.toNat_natCast,← hr i hi];exact r.word_lt i
  refine .inr ⟨s.setw (i:Int) ((g i (a.word i):Nat):Int),fun j hj=>?_,fun k hk=>hs k i s _ hi (by rw [h i hi];simp) rfl hk⟩;rw [zm4 hv j hj,h j hj]
  by_cases e:j=i
  ·subst e;simp [hr j hj]
  ·rw [if_neg e]
   by_cases e2:j<i
   ·rw [if_pos e2,if_pos (by omega)]
   ·rw [if_neg e2,if_neg (by omega)]
 ·intro s h k;have:s=r:=Cl.ext_words fun i hi=>by rw [h i hi,if_pos hi]
  subst this;exact hx k
theorem ziu {r:Cl} {i v:Nat} (hi:i<4) (hv:v<2 ^ 64) (h:∀j,j<64→r.has (64*i+j)=v.testBit j):r.word i=v:=by
 apply Nat.eq_of_testBit_eq;intro j;rw [Cl.word_bit]
 by_cases hj:j<64
 ·simp [hj,h j hj]
 ·have:v<2 ^ j:=Nat.lt_of_lt_of_le hv (Nat.pow_le_pow_right (by omega) (by omega));simp [hj,Nat.testBit_lt_two_pow this]
theorem zf6 {a:Cl} {n:Nat} (hn:n<256):zdb a (n:Int) (a.has n):=by
 refine ⟨by omega,⟨by omega,by omega⟩, ?_⟩;have hw:Cl.w a ((n:Int) / 64)=((a.word (n / 64):Nat):Int):=by
  rw [show ((n:Int) / 64)=((n / 64:Nat):Int) by omega];rfl
 rw [hw];refine zg1 (P:=fun k (s:Int) v=>zdb.l1 (n:Int) _ k s v) (n % 64) (fun i s=>s=((a.word (n / 64) / 2 ^ i:Nat):Int)) ?_ ?_ _ (by simp)
 ·rintro i s hi rfl;refine .inr ⟨_,rfl,fun k h=>⟨by omega,fun _=>⟨zn (by omega) (by omega), ?_⟩,fun h=>absurd (by omega) (df h)⟩⟩;rw [Nat.pow_succ,← Nat.div_div_eq_div_mul,Int.natCast_ediv] at h;exact h
 ·rintro s rfl k;refine ⟨by omega,fun h=>absurd (dt h) (by omega),fun _=>?_⟩;show a.has n=_;rw [has_w hn,Nat.testBit_eq_decide_div_mod_eq];rcases Nat.mod_two_eq_zero_or_one (a.word (n / 64) / 2 ^ (n % 64)) with h | h
  ·rw [h,show (((a.word (n / 64) / 2 ^ (n % 64):Nat):Int) % 2)=0 by omega];rfl
  ·rw [h,show (((a.word (n / 64) / 2 ^ (n % 64):Nat):Int) % 2)=1 by omega];rfl
theorem ref01_Has_u8 {a:Cl} {c:Int} (hc:InR .u8 c):zdb a c (a.has c.toNat):=by
 obtain ⟨n,hn,rfl⟩:=u8_of hc;simpa using zf6 (a:=a) hn
theorem ref01_Of_l2 {l:List Bool} (hl:l.length=256) {w:Nat} (hw:w<4) {X:Cl→Prop} {s:Cl} (h0:s.word w=0) (hX:∀t:Cl,(∀j,j<4→t.word j=if j=w then ze5 (fun j=>l.getD (64*w+j) false) 64 else s.word j)→X t):
  ∃k,zb1.l2 l (w:Int) X k s 1 0:=by
 refine zg1 (P:=fun k (s:Cl × Int) v=>zb1.l2 l (w:Int) X k s.1 s.2 v) 64
  (fun i t=>(∀j,j<4→t.1.word j=if j=w then ze5 (fun j=>l.getD (64*w+j) false) i else s.word j)∧t.2=((2 ^ i % 2 ^ 64:Nat):Int)) ?_ ?_ (s,1) ?_
 ·rintro i ⟨t,b⟩ hi ⟨h1,h2⟩;simp only at h1 h2;subst h2;have hb:=znu (fun j=>l.getD (64*w+j) false) (i+1);have hp:2 ^ (i+1)≤2 ^ 64:=Nat.pow_le_pow_right (by omega) (by omega);have hp2:2 ^ i<2 ^ 64:=Nat.pow_lt_pow_right (by omega) hi;have hbit:IntKind.wrap .u64 (((2 ^ i % 2 ^ 64:Nat):Int)*2)=((2 ^ (i+1) % 2 ^ 64:Nat):Int):=by
   rw [zmg,Nat.mod_eq_of_lt hp2,Nat.pow_succ];omega
  have hat:at? l (64*(w:Int)+(i:Int))=some (l.getD (64*w+i) false):=by
   rw [show (64*(w:Int)+(i:Int))=((64*w+i:Nat):Int) by omega,zci,List.getElem?_eq_getElem (by omega)];simp [List.getD,List.getElem?_eq_getElem (show 64*w+i<l.length by omega)]
  cases he:l.getD (64*w+i) false
  ·refine .inr ⟨(t,((2 ^ (i+1) % 2 ^ 64:Nat):Int)),⟨fun j hj=>?_,rfl⟩,fun k h=>⟨fun _=>⟨zn (by omega) (by omega),zn (by omega) (by omega),_,hat,fun hc=>(by rw [he] at hc;cases hc),fun _=>⟨zn (by omega) (by omega), ?_⟩⟩,fun h=>absurd (by omega) (df h)⟩⟩
   ·simp only;rw [h1 j hj];split
    ·simp only [ze5,he,cond_false]
    ·rfl
   ·rw [hbit];exact h
  ·refine .inr ⟨(t.setw (w:Int) ((ze5 (fun j=>l.getD (64*w+j) false) (i+1):Nat):Int),((2 ^ (i+1) % 2 ^ 64:Nat):Int)),⟨fun j hj=>?_,rfl⟩,fun k h=>⟨fun _=>⟨zn (by omega) (by omega),zn (by omega) (by omega),_,hat,fun _=>⟨⟨by omega,by omega⟩,⟨by omega,by omega⟩,zn (by omega) (by omega), ?_⟩,fun hc=>(by rw [he] at hc;cases hc)⟩,fun h=>absurd (by omega) (df h)⟩⟩
   ·simp only;rw [zm4 (by rw [Int.toNat_natCast];omega) j hj,Int.toNat_natCast];split
    ·rfl
    ·rename_i e;rw [h1 j hj,if_neg e]
   ·have hww:(Cl.w t (w:Int))=((ze5 (fun j=>l.getD (64*w+j) false) i:Nat):Int):=by
     show ((t.word ((w:Int).toNat):Nat):Int)=_;rw [Int.toNat_natCast,h1 w hw,if_pos rfl]
    have hsum:IntKind.wrap .u64 (Cl.w t (w:Int)+((2 ^ i % 2 ^ 64:Nat):Int))=((ze5 (fun j=>l.getD (64*w+j) false) (i+1):Nat):Int):=by
     have e2:ze5 (fun j=>l.getD (64*w+j) false) (i+1)=2 ^ i+ze5 (fun j=>l.getD (64*w+j) false) i:=by simp only [ze5,he,cond_true]
     rw [hww,zmg,Nat.mod_eq_of_lt hp2];omega
    rw [hbit,hsum];exact h
 ·rintro ⟨t,b⟩ ⟨h1,_⟩ k;exact ⟨fun h=>absurd (dt h) (by omega),fun _=>hX t h1⟩
 ·refine ⟨fun j hj=>?_,by rfl⟩;split
  ·rename_i e;subst e;simpa [ze5] using h0
  ·rfl
theorem ofL_word {l:List Bool} {w:Nat} (hw:w<4):(Cl.ofL l).word w=ze5 (fun j=>l.getD (64*w+j) false) 64:=by
 refine ziu hw (znu _ 64) fun j hj=>?_;rw [has_ofL (by omega),zo5];simp [hj]
theorem ref01_Of_in {l:List Bool} (hl:l.length=256):zb1 l (Cl.ofL l):=by
 refine zg1 (P:=fun k (s:Cl) v=>zb1.l1 l _ k s v) 4 (fun i s=>∀j,j<4→s.word j=if j<i then (Cl.ofL l).word j else 0) ?_ ?_ _ ?_
 ·intro i s hi h;refine .inr ⟨Cl.ofWords (if 0<i+1 then (Cl.ofL l).word 0 else 0) (if 1<i+1 then (Cl.ofL l).word 1 else 0) (if 2<i+1 then (Cl.ofL l).word 2 else 0) (if 3<i+1 then (Cl.ofL l).word 3 else 0), ?_,fun k hk=>⟨fun _=>?_,fun h=>absurd (by omega) (df h)⟩⟩
  ·have hb:∀(c:Prop) [Decidable c] (k:Nat),(if c then (Cl.ofL l).word k else 0)<2 ^ 64:=fun c _ k=>by
    split
    ·exact Cl.word_lt _ _
    ·omega
   obtain ⟨e0,e1,e2,e3⟩:=Cl.ofWords_word (hb (0<i+1) 0) (hb (1<i+1) 1) (hb (2<i+1) 2) (hb (3<i+1) 3);intro j hj
   match j,hj with
   | 0,_=>exact e0
   | 1,_=>exact e1
   | 2,_=>exact e2
   | 3,_=>exact e3
  ·refine ref01_Of_l2 hl hi (by rw [h i hi,if_neg (by omega)]) fun t ht=>?_;refine ⟨zn (by omega) (by omega), ?_⟩;have hb:∀(c:Prop) [Decidable c] (k:Nat),(if c then (Cl.ofL l).word k else 0)<2 ^ 64:=fun c _ k=>by
    split
    ·exact Cl.word_lt _ _
    ·omega
   obtain ⟨e0,e1,e2,e3⟩:=Cl.ofWords_word (hb (0<i+1) 0) (hb (1<i+1) 1) (hb (2<i+1) 2) (hb (3<i+1) 3);have key:∀j,j<4→t.word j=if j<i+1 then (Cl.ofL l).word j else 0:=fun j hj=>by
    rw [ht j hj]
    by_cases e:j=i
    ·subst e;rw [if_pos rfl,if_pos (by omega),ofL_word hj]
    ·rw [if_neg e,h j hj]
     by_cases e2:j<i
     ·rw [if_pos e2,if_pos (by omega)]
     ·rw [if_neg e2,if_neg (by omega)]
   have:t=_:=Cl.ext_words (x:=t) (y:=Cl.ofWords (if 0<i+1 then (Cl.ofL l).word 0 else 0) (if 1<i+1 then (Cl.ofL l).word 1 else 0) (if 2<i+1 then (Cl.ofL l).word 2 else 0) (if 3<i+1 then (Cl.ofL l).word 3 else 0)) fun j hj=>by
    rw [key j hj]
    match j,hj with
    | 0,_=>exact e0.symm
    | 1,_=>exact e1.symm
    | 2,_=>exact e2.symm
    | 3,_=>exact e3.symm
   rw [this];exact hk
 ·intro s h k;refine ⟨fun h=>absurd (dt h) (by omega),fun _=>?_⟩;show Cl.ofL l=s;exact Cl.ext_words fun j hj=>by rw [h j hj,if_pos hj]
 ·intro j hj;simp [Cl.word]
theorem ofL_set {l:List Bool} {f:Nat→Bool} (h:∀n,n<256→l[n]?=some (f n)):Cl.ofL l=Cl.of f:=by
 apply Cl.ext;intro c hc;rw [has_ofL hc,Cl.of_has _ hc];simp [List.getD,h c hc]
theorem zi6 {f t:Int} (hf:InR .u8 f) (ht:InR .u8 t):zdl f t (Cl.row f t):=by
 obtain ⟨f,hf1,rfl⟩:=u8_of hf;obtain ⟨t,ht1,rfl⟩:=u8_of ht;refine run (P:=fun k (s:List Bool × Int)=>zdl.l1 (t:Int) _ k s.1 s.2)
  (fun s=>s.1.length=256∧∃i:Nat,s.2=i∧f≤i∧(i≤t+1∨i=f)∧∀n,n<256→s.1[n]?=some (decide (f≤n)&&decide (n<i))) (fun s=>257-s.2.toNat) ?_ (List.replicate 256 false,(f:Int)) ?_
 ·rintro ⟨l,i'⟩ ⟨hl,i,hi,h1,h2,h3⟩;simp only at hl hi h3;subst hi
  by_cases hc:i≤t
  ·refine .inr ⟨(l.set i true,((i+1:Nat):Int)),⟨by simpa using hl,i+1,rfl,by omega,by omega,fun n hn=>?_⟩, ?_,fun k h=>⟨fun _=>⟨l[i]'(by omega),by rw [zci];exact List.getElem?_eq_getElem (by show i<l.length;omega),zn (by simp only;omega) (by simp only;omega), ?_⟩,fun h=>absurd (by show (i:Int)≤(t:Int);omega) (df h)⟩⟩
   ·simp only [List.getElem?_set];split
    ·rename_i e;subst e;simp [show i<l.length by omega,h1]
    ·rename_i e
     rw [h3 n hn];congr 2;apply decide_eq_decide.2;omega
   ·simp only [Int.toNat_natCast];omega
   ·simpa using h
  ·refine .inl fun k=>⟨fun h=>absurd (dt h) (by simp only;omega),fun _=>⟨Cl.ofL l,ref01_Of_in hl, ?_⟩⟩;rw [ofL_set h3];apply Cl.ext;intro c hc2;rw [has_row hc2,Cl.of_has _ hc2]
   by_cases e:f≤c
   ·have e3:(decide (c<i):Bool)=decide (c≤t):=decide_eq_decide.2 (by omega);rw [e3]
    congr 1
    ·apply decide_eq_decide.2;omega
    ·apply decide_eq_decide.2;omega
   ·rw [decide_eq_false (show ¬ (f:Int)≤(c:Int) by omega),decide_eq_false e];simp
 ·refine ⟨List.length_replicate,f,rfl,Nat.le_refl _,by omega,fun n hn=>?_⟩;show (List.replicate 256 false)[n]?=_;rw [List.getElem?_replicate,if_pos hn]
  by_cases e:f≤n
  ·simp [show ¬ n<f by omega]
  ·simp [e]
def zbn (d:List SNode) (s:List SItem) (c:Int):List SItem × Bool:=
 match s with
 | []=>([],false)
 | x::rest=>
  if (zet rest).2=false then ([],false)
  else match at? d x.2.1 with
   | none=>([],false)
   | some n=>
    if x.1=3 then (if zfz n.2.2.2.2.2.2 x.2.2.1=some c then ((if x.2.2.1+1<(n.2.2.2.2.2.2.length:Int) then [(3,x.2.1,x.2.2.1+1,0)] else [])++(zet rest).1,true) else ([],false))
    else if x.1=4 then ([(1,n.2.1,0,0),(5,0,256*x.2.2.1+c,0)]++(zet rest).1,true)
    else if n.1=8 then ([(1,n.2.1,0,0),(5,0,c,0)]++(zet rest).1,true)
    else if n.1=9 then ([(4,x.2.1,c,0)]++(zet rest).1,true)
    else if n.2.2.2.2.2.1.has c.toNat=true then ((zet rest).1,true) else ([],false)
theorem zqc (s:List SItem):(zet s).1.length≤s.length:=by unfold zet;split <;> simp
theorem zk0 (d:List SNode) (s:List SItem) (c:Int):(zbn d s c).1.length≤s.length+1:=by
 cases s with
 | nil=>simp [zbn]
 | cons x rest=>
  have:=zqc rest;unfold zbn;simp only;split
  ·simp
  ·cases at? d x.2.1 with
   | none=>simp
   | some n=>
    simp only [List.length_cons];split
    ·split
     ·split <;> simp <;> omega
     ·simp
    ·split
     ·simp;omega
     ·split
      ·simp;omega
      ·split
       ·simp;omega
       ·split <;> simp;omega
theorem itR_form {d:List SNode} (hd:ROk d) (hl:d.length≤1000) (ht:∀n∈d,n.2.2.2.2.2.2.length≤140737488351232) {x:SItem} (hx:zee d x=true):ItR x:=by
 unfold zee at hx;split at hx
 ·rename_i h5
  simp only [Bool.and_eq_true,beq_iff_eq,decide_eq_true_eq] at hx;exact ⟨zn (by omega) (by omega),zn (by omega) (by omega),zn (by omega) (by omega),zn (by omega) (by omega)⟩
 ·cases hn:at? d x.2.1 with
  | none=>rw [hn] at hx;cases hx
  | some n=>
   rw [hn] at hx;have hb:=zda hn;have hm:n∈d:=by
    obtain ⟨k,_,hk⟩:=zqv hn;exact List.mem_of_getElem? hk
   have htn:=ht n hm;simp only at hx;split at hx
   ·rename_i h1
    simp only [Bool.and_eq_true,beq_iff_eq] at hx;exact ⟨zn (by omega) (by omega),zn (by omega) (by omega),zn (by omega) (by omega),zn (by omega) (by omega)⟩
   ·split at hx
    ·rename_i h2
     simp only [Bool.and_eq_true,beq_iff_eq,decide_eq_true_eq] at hx;have:=hd.rep _ n hn hx.1.1.1;exact ⟨zn (by omega) (by omega),zn (by omega) (by omega),zn (by omega) (by omega),zn (by omega) (by omega)⟩
    ·split at hx
     ·rename_i h3
      simp only [Bool.and_eq_true,beq_iff_eq,decide_eq_true_eq] at hx;exact ⟨zn (by omega) (by omega),zn (by omega) (by omega),zn (by omega) (by omega),zn (by omega) (by omega)⟩
     ·split at hx
      ·rename_i h4
       simp only [Bool.and_eq_true,beq_iff_eq,decide_eq_true_eq] at hx;exact ⟨zn (by omega) (by omega),zn (by omega) (by omega),zn (by omega) (by omega),zn (by omega) (by omega)⟩
      ·cases hx
theorem itR_all {d:List SNode} (hd:ROk d) (hl:d.length≤1000) (ht:∀n∈d,n.2.2.2.2.2.2.length≤140737488351232) {s:List SItem} (hs:zd4 d s=true):∀x∈s,ItR x:=by
 intro x hx;unfold zd4 at hs;rw [List.all_eq_true] at hs;exact itR_form hd hl ht (hs x hx)
theorem zk2 {d:List SNode} {x:SItem} {rest:List SItem} (hf:zd4 d (x::rest)=true) (hr:rdy d (x::rest)=true):∃n,at? d x.2.1=some n∧n∈d∧((x.1=1∧(n.1=2∨n.1=8∨n.1=9))∨(x.1=3∧n.1=3∧x.2.2.2=0∧0≤x.2.2.1∧x.2.2.1<(n.2.2.2.2.2.2.length:Int))∨(x.1=4∧n.1=9∧0≤x.2.2.1∧x.2.2.1≤255)):=by
 have hx:=(zeb hf).1;have h5:x.1≠5:=fun h=>by simp [rdy,h] at hr
 obtain ⟨n,hn,_⟩:=zf9 hx h5;have hm:n∈d:=by
  obtain ⟨k,_,hk⟩:=zqv hn;exact List.mem_of_getElem? hk
 refine ⟨n,hn,hm, ?_⟩;unfold zee at hx;rw [if_neg h5,hn] at hx;simp only [rdy,hn,Bool.or_eq_true,beq_iff_eq,Bool.and_eq_true] at hr;simp only at hx;rcases hr with (h3 | h4) | ⟨h1,h2⟩
 ·rw [if_neg (by omega),if_neg (by omega),if_pos h3] at hx;simp only [Bool.and_eq_true,beq_iff_eq,decide_eq_true_eq] at hx;exact .inr (.inl ⟨h3,hx.1.1.1,hx.1.1.2,hx.1.2,hx.2⟩)
 ·rw [if_neg (by omega),if_neg (by omega),if_neg (by omega),if_pos h4] at hx;simp only [Bool.and_eq_true,beq_iff_eq,decide_eq_true_eq] at hx;exact .inr (.inr ⟨h4,hx.1.1.1,hx.1.2,hx.2⟩)
 ·exact .inl ⟨h1,by omega⟩
theorem zqu {s:Str} {i:Int} (h0:0≤i) (h1:i<(s.length:Int)):∃c,zfz s i=some c∧InR .u8 c:=by
 obtain ⟨x,hx,_⟩:=at_in h0 h1;refine ⟨(x.toNat:Int),by unfold zfz;rw [hx];rfl,zjb.2 ⟨by omega, ?_⟩⟩;have:=x.toNat_lt;omega
theorem next_Read_in {d:List SNode} (hd:ROk d) (hl:d.length≤1000) (ht:∀n∈d,n.2.2.2.2.2.2.length≤140737488351232) {s:List SItem} (hs:s.length≤1000) (hf:zd4 d s=true) (hr:rdy d s=true) {c:Int} (hc:InR .u8 c):zk5 d s c (zbn d s c):=by
 cases s with
 | nil=>exact ⟨fun _=>rfl,fun h=>by simp at h⟩
 | cons x rest=>
  have hls:rest.length≤1000:=by simp at hs;omega
  have hcr:=zjb.1 hc;obtain ⟨n,hn,hm,hk⟩:=zk2 hf hr;have htn:=ht n hm;have hlow:=zqm hls (itR_all hd hl ht (zeb hf).2);have hlen:=zqc rest;refine ⟨fun h=>by simp at h;omega,fun _=>⟨⟨by omega,by simp;omega⟩,zet rest,hlow,x,rfl,fun hb=>?_,fun hb=>⟨x,rfl,n,hn,x,rfl, ?_⟩⟩⟩
  ·have hmh:zh6 gfmS x.1=true:=by rcases hk with ⟨h,_⟩ | ⟨h,_⟩ | ⟨h,_⟩ <;> rw [h] <;> rfl
   rw [hmh] at hb;simp only [Bool.not_true,Bool.or_false,Bool.not_eq_true'] at hb;unfold zbn;simp only;rw [if_pos hb]
  ·simp only [Bool.or_eq_false_iff,Bool.not_eq_false'] at hb;have hb1:¬ (zet rest).2=false:=by rw [hb.1];simp
   have cat:∀l:List SItem,l.length≤2→zj [l,(zet rest).1] (l++(zet rest).1):=fun l h=>zo3 (by omega) (by omega);rcases hk with ⟨h1,h2⟩ | ⟨h3,h4,h5,h6,h7⟩ | ⟨h4,h9,h6,h7⟩
   ·-- a node
    have e1:ze4 gfmS x.1 none=ze4 gfmS 1 none:=by rw [h1]
    rw [e1];rcases h2 with h2 | h2 | h2
    ·by_cases hh:n.2.2.2.2.2.1.has c.toNat=true
     ·have hrd:zbn d (x::rest) c=([]++(zet rest).1,true):=by
       unfold zbn;simp only [hn];rw [if_neg hb1,if_neg (by omega),if_neg (by omega),if_neg (by omega),if_neg (by omega),if_pos hh];rfl
      rw [hrd];refine ⟨([],true),.inl ⟨rfl,fun h=>by simp [h2] at h,fun _=>⟨fun h=>by simp [h2] at h,fun _=>⟨_,zma hc,by rw [hh]⟩⟩⟩,fun h=>by simp at h,fun _=>⟨_,cat [] (by simp),rfl⟩⟩
     ·have hh':n.2.2.2.2.2.1.has c.toNat=false:=by simpa using hh
      have hrd:zbn d (x::rest) c=([],false):=by
       unfold zbn;simp only [hn];rw [if_neg hb1,if_neg (by omega),if_neg (by omega),if_neg (by omega),if_neg (by omega),if_neg hh]
      rw [hrd];exact ⟨([],false),.inl ⟨rfl,fun h=>by simp [h2] at h,fun _=>⟨fun h=>by simp [h2] at h,fun _=>⟨_,zma hc,by rw [hh']⟩⟩⟩,fun _=>rfl,fun h=>by simp at h⟩
    ·have hrd:zbn d (x::rest) c=([(1,n.2.1,0,0),(5,0,c,0)]++(zet rest).1,true):=by
      unfold zbn;simp only [hn];rw [if_neg hb1,if_neg (by omega),if_neg (by omega),if_pos h2]
     rw [hrd];exact ⟨([(1,n.2.1,0,0),(5,0,c,0)],true),.inl ⟨rfl,fun _=>⟨_,rfl,rfl⟩,fun h=>by simp [h2] at h⟩,fun h=>by simp at h,fun _=>⟨_,cat _ (by simp),rfl⟩⟩
    ·have hrd:zbn d (x::rest) c=([(4,x.2.1,c,0)]++(zet rest).1,true):=by
      unfold zbn;simp only [hn];rw [if_neg hb1,if_neg (by omega),if_neg (by omega),if_neg (by omega),if_pos h2]
     rw [hrd];exact ⟨([(4,x.2.1,c,0)],true),.inl ⟨rfl,fun h=>by simp [h2] at h,fun _=>⟨fun _=>rfl,fun h=>by simp [h2] at h⟩⟩,fun h=>by simp at h,fun _=>⟨_,cat _ (by simp),rfl⟩⟩
   ·-- a text
    have e1:ze4 gfmS x.1 none=ze4 gfmS 3 none:=by rw [h3]
    rw [e1];obtain ⟨b,hb2,_⟩:=zqu h6 h7;obtain ⟨xk,xi,xl,xh⟩:=x;simp only at h3 h5 h6 h7 hb2 hn;subst h3;subst h5
    by_cases hbc:b=c
    ·subst hbc
     by_cases hlast:xl+1<(n.2.2.2.2.2.2.length:Int)
     ·have hrd:zbn d ((3,xi,xl,0)::rest) b=([(3,xi,xl+1,0)]++(zet rest).1,true):=by
       unfold zbn;simp only [hn];rw [if_neg hb1,if_pos trivial,if_pos hb2,if_pos hlast]
      rw [hrd];refine ⟨([(3,xi,xl+1,0)],true),.inr (.inl ⟨rfl,zn (by show _≤xl+1;omega) (by show xl+1≤_;omega),_,rfl,fun h=>?_,fun _=>⟨b,hb2,by simp⟩⟩),fun h=>by simp at h,fun _=>⟨_,cat _ (by simp),rfl⟩⟩;simp at h;omega
     ·have hrd:zbn d ((3,xi,xl,0)::rest) b=([]++(zet rest).1,true):=by
       unfold zbn;simp only [hn];rw [if_neg hb1,if_pos trivial,if_pos hb2,if_neg hlast]
      rw [hrd];refine ⟨([],true),.inr (.inl ⟨rfl,zn (by show _≤xl+1;omega) (by show xl+1≤_;omega),_,rfl,fun _=>⟨b,hb2,by simp⟩,fun h=>?_⟩),fun h=>by simp at h,fun _=>⟨_,cat _ (by simp),rfl⟩⟩;simp at h;omega
    ·have hne:¬ zfz n.2.2.2.2.2.2 xl=some c:=by rw [hb2];simpa using hbc
     have hrd:zbn d ((3,xi,xl,0)::rest) c=([],false):=by
      unfold zbn;simp only [hn];rw [if_neg hb1,if_pos trivial,if_neg hne]
     rw [hrd];have hbeq:(b==c)=false:=by simpa using hbc
     by_cases hlast:xl+1=(n.2.2.2.2.2.2.length:Int)
     ·refine ⟨([],false),.inr (.inl ⟨rfl,zn (by show _≤xl+1;omega) (by show xl+1≤_;omega),_,rfl,fun _=>⟨b,hb2,by rw [hbeq]⟩,fun h=>?_⟩),fun _=>rfl,fun h=>by simp at h⟩;simp at h;omega
     ·refine ⟨([(3,xi,xl+1,0)],false),.inr (.inl ⟨rfl,zn (by show _≤xl+1;omega) (by show xl+1≤_;omega),_,rfl,fun h=>?_,fun _=>⟨b,hb2,by rw [hbeq]⟩⟩),fun _=>rfl,fun h=>by simp at h⟩;simp at h;omega
   ·-- half a number
    have e1:ze4 gfmS x.1 none=ze4 gfmS 4 none:=by rw [h4]
    rw [e1];have hrd:zbn d (x::rest) c=([(1,n.2.1,0,0),(5,0,256*x.2.2.1+c,0)]++(zet rest).1,true):=by
     unfold zbn;simp only [hn];rw [if_neg hb1,if_neg (by omega),if_pos h4]
    rw [hrd];exact ⟨([(1,n.2.1,0,0),(5,0,256*x.2.2.1+c,0)],true),.inr (.inr ⟨rfl,zn (by show _≤256*x.2.2.1;omega) (by show 256*x.2.2.1≤_;omega),zn (by show _≤256*x.2.2.1+c;omega) (by show 256*x.2.2.1+c≤_;omega),_,rfl,rfl⟩),fun h=>by simp at h,fun _=>⟨_,cat _ (by simp),rfl⟩⟩
theorem zpk {d:List SNode} (hd:ROk d) (hl:d.length≤1000) (ht:∀n∈d,n.2.2.2.2.2.2.length≤140737488351232) {s:List SItem} (hs:s.length≤1000) (hf:zd4 d s=true) (hr:rdy d s=true) {c:Int} (hc:InR .u8 c):zjr d s c (zbn d s c):=by
 cases s with
 | nil=>exact ⟨fun _=>rfl,fun h=>by simp at h⟩
 | cons x rest=>
  have hls:rest.length≤1000:=by simp at hs;omega
  have hcr:=zjb.1 hc;obtain ⟨n,hn,hm,hk⟩:=zk2 hf hr;have htn:=ht n hm;have hlow:=zoc hls (itR_all hd hl ht (zeb hf).2);have hlen:=zqc rest;refine ⟨fun h=>by simp at h;omega,fun _=>⟨⟨by omega,by simp;omega⟩,zet rest,hlow,fun hb=>?_,fun hb=>⟨x,rfl,n,hn, ?_⟩⟩⟩
  ·simp only [Bool.not_eq_true'] at hb;unfold zbn;simp only;rw [if_pos hb]
  ·simp only [Bool.not_eq_false'] at hb;have hb1:¬ (zet rest).2=false:=by rw [hb];simp
   rcases hk with ⟨h1,h2⟩ | ⟨h3,h4,h5,h6,h7⟩ | ⟨h4,h9,h6,h7⟩
   ·refine ⟨fun h=>by simp [h1] at h,fun _=>⟨fun h=>by simp [h1] at h,fun _=>?_⟩⟩;rcases h2 with h2 | h2 | h2
    ·refine ⟨fun h=>by simp [h2] at h,fun _=>⟨fun h=>by simp [h2] at h,fun _=>⟨_,ref01_Has_u8 hc,fun hh=>?_,fun hh=>⟨by simp;omega, ?_⟩⟩⟩⟩
     ·have hh':¬ n.2.2.2.2.2.1.has c.toNat=true:=by simpa using hh
      unfold zbn;simp only [hn];rw [if_neg hb1,if_neg (by omega),if_neg (by omega),if_neg (by omega),if_neg (by omega),if_neg hh']
     ·have hh':n.2.2.2.2.2.1.has c.toNat=true:=by simpa using hh
      unfold zbn;simp only [hn];rw [if_neg hb1,if_neg (by omega),if_neg (by omega),if_neg (by omega),if_neg (by omega),if_pos hh'];rfl
    ·refine ⟨fun _=>⟨by simp;omega, ?_⟩,fun h=>by simp [h2] at h⟩;unfold zbn;simp only [hn];rw [if_neg hb1,if_neg (by omega),if_neg (by omega),if_pos h2]
    ·refine ⟨fun h=>by simp [h2] at h,fun _=>⟨fun _=>⟨by simp;omega, ?_⟩,fun h=>by simp [h2] at h⟩⟩;unfold zbn;simp only [hn];rw [if_neg hb1,if_neg (by omega),if_neg (by omega),if_neg (by omega),if_pos h2]
   ·obtain ⟨b,hb2,_⟩:=zqu h6 h7;refine ⟨fun _=>⟨b,hb2,fun hbc=>?_,fun hbc=>⟨zn (by omega) (by omega),_,rfl,fun hl2=>⟨zn (by omega) (by omega),by simp;omega, ?_⟩,fun hl2=>⟨by simp;omega, ?_⟩⟩⟩,fun h=>by simp [h3] at h⟩
    ·have hne:¬ zfz n.2.2.2.2.2.2 x.2.2.1=some c:=by rw [hb2];simpa using hbc
     unfold zbn;simp only [hn];rw [if_neg hb1,if_pos h3,if_neg hne]
    ·have he:zfz n.2.2.2.2.2.2 x.2.2.1=some c:=by rw [hb2];simpa using hbc
     unfold zbn;simp only [hn];rw [if_neg hb1,if_pos h3,if_pos he,if_pos (dt hl2)]
    ·have he:zfz n.2.2.2.2.2.2 x.2.2.1=some c:=by rw [hb2];simpa using hbc
     unfold zbn;simp only [hn];rw [if_neg hb1,if_pos h3,if_pos he,if_neg (df hl2)]
   ·refine ⟨fun h=>by simp [h4] at h,fun _=>⟨fun _=>⟨zn (by omega) (by omega),zn (by omega) (by omega),by simp;omega, ?_⟩,fun h=>by simp [h4] at h⟩⟩;unfold zbn;simp only [hn];rw [if_neg hb1,if_neg (by omega),if_pos h4]
def movN (c:Int) (n:SNode):SNode:=(n.1,if 4≤n.1 then n.2.1+c else n.2.1,if n.1=4∨n.1=5 then n.2.2.1+c else n.2.2.1,n.2.2.2.1,n.2.2.2.2.1,n.2.2.2.2.2.1,n.2.2.2.2.2.2)
def movL (c:Int) (l:List SNode):List SNode:=l.map (movN c)
theorem movL_len (c:Int) (l:List SNode):(movL c l).length=l.length:=List.length_map ..
theorem moved_in {l:List SNode} {c:Int} (hl:l.length≤1000) (hr:∀n∈l,InR .i64 (n.2.1+c)∧InR .i64 (n.2.2.1+c)):zbc l c (movL c l):=by
 refine zg1 (P:=fun k (o:List SNode) v=>zbc.l1 l c _ k o v) l.length (fun i o=>o=movL c (l.take i)) ?_ ?_ [] (by simp [movL])
 ·rintro i o hi rfl;have hat:at? l (i:Int)=some l[i]:=by rw [zci];simp [hi]
  obtain ⟨r1,r2⟩:=hr _ (List.getElem_mem hi);have e:movL c (l.take (i+1))=movL c (l.take i)++[movN c l[i]]:=by
   unfold movL;rw [List.take_succ_eq_append_getElem hi,List.map_append];rfl
  have hll:(movL c (l.take i)).length=i:=by rw [movL_len];simp;omega
  refine .inr ⟨_,rfl,fun k hk=>⟨fun _=>⟨l[i],hat, ?_⟩,fun h=>absurd (by omega) (df h)⟩⟩;rw [e] at hk;have last:∀w:SNode,w=movN c l[i]→zbc.j2 (zbc.l1 l c (zbc.j1 (movL c l)) k) (movL c (l.take i)) (i:Int) w:=by
   rintro w rfl;exact ⟨by rw [hll];simp;omega,zn (by omega) (by omega),hk⟩
  generalize l[i]=n at *;obtain ⟨k0,a,b,lo,hi2,cl,tx⟩:=n;simp only at r1 r2;refine ⟨fun h4=>⟨r1,fun h5=>⟨r2,last _ ?_⟩,fun h5=>last _ ?_⟩,fun h4=>⟨fun h5=>?_,fun h5=>last _ ?_⟩⟩
  ·have:=dt h4;simp only at this;simp only [Bool.or_eq_true,beq_iff_eq] at h5;simp only [movN,if_pos this,if_pos h5]
  ·have:=dt h4;simp only at this;simp only [Bool.or_eq_false_iff,beq_eq_false_iff_ne] at h5;have h5':¬ (k0=4∨k0=5):=by omega
   simp only [movN,if_pos this,if_neg h5']
  ·exfalso;have:=df h4;simp only at this;simp only [Bool.or_eq_true,beq_iff_eq] at h5;omega
  ·have:=df h4;simp only at this;have h5':¬ (k0=4∨k0=5):=by omega
   simp only [movN,if_neg this,if_neg h5']
 ·rintro o rfl k;refine ⟨fun h=>absurd (dt h) (by omega),fun _=>?_⟩;show movL c l=movL c (l.take l.length);rw [List.take_length]
theorem movN_zero (n:SNode):movN 0 n=n:=by
 obtain ⟨k,a,b,r⟩:=n;simp [movN]
theorem movL_zero (l:List SNode):movL 0 l=l:=by
 unfold movL;rw [show movN 0=id from funext movN_zero,List.map_id]
def pairD (k:Int) (a b:List SNode):List SNode:=(a++movL (a.length:Int) b)++[(k,(a.length:Int)-1,((a.length:Int)+(b.length:Int))-1,0,0,(0#256),([]:Str))]
def zmd (k:Int) (a:List SNode):List SNode:=a++[(k,(a.length:Int)-1,0,0,0,(0#256),([]:Str))]
structure Sma (d:List SNode):Prop where
 a:∀n∈d,0≤n.2.1∧n.2.1≤(d.length:Int)
 b:∀n∈d,0≤n.2.2.1∧n.2.2.1≤(d.length:Int)
theorem Tr.parts {l:List SNode} {f i:Int} (h:Tr l f i) {n:SNode} (hn:at? l i=some n):(0≤n.2.1∧n.2.1≤i)∧(0≤n.2.2.1∧n.2.2.1≤i):=by
 have hb:=zda hn;cases h with
 | leaf he hk hx h0=>rw [hn] at he;cases he;omega
 | one he hk ha hb hr h=>rw [hn] at he;cases he;have:=h.le;omega
 | two he hk ha hb h1 h2=>rw [hn] at he;cases he;have:=h1.le;have:=h2.le;omega
theorem mem_at {α:Type} {l:List α} {x:α} (h:x∈l):∃i:Int,at? l i=some x:=by
 obtain ⟨i,hi,e⟩:=List.mem_iff_getElem.1 h;exact ⟨(i:Int),by rw [zci];simp [hi,e]⟩
theorem Tr.sma {d:List SNode} (h:Tr d 0 ((d.length:Int)-1)):Sma d:=by
 constructor
 all_goals
  intro n hn;obtain ⟨i,hi⟩:=mem_at hn;obtain ⟨g,hg⟩:=h.at hi;have:=hg.parts hi;have:=zda hi;omega
theorem moved_ok {d:List SNode} (h:Tr d 0 ((d.length:Int)-1)) (hl:d.length≤1000) {c:Int} (h0:0≤c) (h1:c≤1000):zbc d c (movL c d):=
 moved_in hl fun n hn=>by
  have:=h.sma.a n hn;have:=h.sma.b n hn;exact ⟨zn (by omega) (by omega),zn (by omega) (by omega)⟩
theorem Wrap_in {k:Int} {a:List SNode} (ha:Tr a 0 ((a.length:Int)-1)) (la:a.length≤1000):zjv k 0 0 a (zmd k a):=by
 refine ⟨_,moved_ok ha la (Int.le_refl 0) (by omega),zn (by omega) (by omega),by rw [movL_len];simp;omega, ?_⟩;rw [movL_zero];rfl
structure Emb (l l':List SNode) (c:Int):Prop where
 nn:0≤c
 at':∀i n,at? l i=some n→at? l' (i+c)=some (movN c n)
theorem Tr.emb {l l':List SNode} {c:Int} (h:Emb l l' c) {f i:Int} (t:Tr l f i):Tr l' (f+c) (i+c):=by
 induction t with
 | leaf he hk hx h0=>
  rename_i i e
  have e1:movN c e=e:=by
   obtain ⟨k,a,b,r⟩:=e;simp only at hk;simp only [movN,if_neg (show ¬ 4≤k by omega),if_neg (show ¬ (k=4∨k=5) by omega)]
  exact .leaf (e1 ▸ h.at' _ _ he) hk hx h0
 | one he hk ha hb hr t ih=>
  rename_i f i e
  refine .one (h.at' _ _ he) hk ?_ ?_ hr (by have e:i-1+c=i+c-1:=by omega
                                             rw [← e];exact ih)
  ·simp only [movN];rw [if_pos (by omega)];omega
  ·simp only [movN];rw [if_neg (by omega)];exact hb
 | two he hk ha hb t1 t2 i1 i2=>
  rename_i f p i e
  refine .two (p:=p+c) (h.at' _ _ he) hk ?_ ?_ (by have e:i-1+c=i+c-1:=by omega
                                                   rw [← e];exact i1) (by have e:p-1+c=p+c-1:=by omega
                                                                          rw [← e];exact i2)
  ·simp only [movN];rw [if_pos (by omega)];omega
  ·simp only [movN];rw [if_pos (by omega)];omega
theorem Emb.get {l l':List SNode} {c:Int} (h:Emb l l' c) {i:Int} {n:SNode} (hn:at? l i=some n):∃m,at? l' (i+c)=some m∧m.1=n.1∧(4≤n.1→m.2.1=n.2.1+c)∧(n.1=4∨n.1=5→m.2.2.1=n.2.2.1+c)∧m.2.2.2.1=n.2.2.2.1∧m.2.2.2.2.1=n.2.2.2.2.1:=
 ⟨movN c n,h.at' _ _ hn,rfl,fun h=>if_pos h,fun h=>if_pos h,rfl,rfl⟩
theorem nz_emb {l l':List SNode} {c:Int} (h:Emb l l' c) (hl:NOk l) (hl':NOk l'):∀(k:Nat) (i:Int) (n:SNode),i<(k:Int)→at? l i=some n→nz l' (i+c)=nz l i
 | 0,i,n,hi,hn=>by have:=zda hn;omega
 | k+1,i,n,hi,hn=>by
  have ih:=nz_emb h hl hl' k;obtain ⟨m,hm,f1,f2,f3,f4,f5⟩:=h.get hn;rw [nz_atN hl hn,nz_atN hl' hm,f1,f4]
  by_cases h1:n.1=1
  ·rw [if_pos h1,if_pos h1]
  ·rw [if_neg h1,if_neg h1]
   by_cases h4:n.1=4
   ·obtain ⟨⟨a,b⟩,c',e⟩:=hl.two _ n hn (.inl h4);obtain ⟨m1,hm1⟩:=zfe hn a b;obtain ⟨m2,hm2⟩:=zfe hn c' e;rw [if_pos h4,if_pos h4,f2 (by omega),f3 (.inl h4),ih _ m1 (by omega) hm1,ih _ m2 (by omega) hm2]
   ·rw [if_neg h4,if_neg h4]
    by_cases h5:n.1=5
    ·obtain ⟨⟨a,b⟩,c',e⟩:=hl.two _ n hn (.inr h5);obtain ⟨m1,hm1⟩:=zfe hn a b;obtain ⟨m2,hm2⟩:=zfe hn c' e;rw [if_pos h5,if_pos h5,f2 (by omega),f3 (.inr h5),ih _ m1 (by omega) hm1,ih _ m2 (by omega) hm2]
    ·rw [if_neg h5,if_neg h5]
     by_cases h6:n.1=6
     ·rw [if_pos h6,if_pos h6]
     ·rw [if_neg h6,if_neg h6]
      by_cases h7:n.1=7
      ·obtain ⟨a,b⟩:=hl.one _ n hn (.inr (.inl h7));obtain ⟨m1,hm1⟩:=zfe hn a b;rw [if_pos h7,if_pos h7,f2 (by omega),ih _ m1 (by omega) hm1]
      ·rw [if_neg h7,if_neg h7]
theorem PM_rng {d:List SNode} (hd:ROk d):∀(k:Nat) (i:Int),i<(k:Int)→∀p∈pm d i,∃x q,p=x::q∧0≤x.2.1∧x.2.1<(d.length:Int)
 | 0,i,hi,p,hp=>by
  have:at? d i=none:=at_none (.inl (by omega));unfold pm at hp;rw [zjh hd d.length 0 i] at hp
  ·simp [PM] at hp
  ·omega
  ·omega
 | k+1,i,hi,p,hp=>by
  have ih:=PM_rng hd k;cases hn:at? d i with
  | none=>
   exfalso;unfold pm at hp;cases hdl:d.length with
   | zero=>rw [hdl] at hp;simp [PM] at hp
   | succ m=>rw [hdl] at hp;simp [PM,hn] at hp
  | some n=>
   have hb:=zda hn;have e1:pm d i=(PM d d.length i).1:=rfl;rw [e1,zop hd hn] at hp;have app:∀(a:Int) (y:SItem),a<i→p∈(pm d a).map (·++[y])→∃x q,p=x::q∧0≤x.2.1∧x.2.1<(d.length:Int):=by
    intro a y ha h;obtain ⟨q,hq,rfl⟩:=List.mem_map.1 h;obtain ⟨x,q',rfl,h1,h2⟩:=ih a (by omega) q hq;exact ⟨x,q'++[y],rfl,h1,h2⟩
   by_cases h1:n.1=1
   ·simp [h1] at hp
   ·by_cases h3:n.1=3
    ·simp [h3] at hp;subst hp;exact ⟨_,_,rfl,hb⟩
    ·by_cases h4:n.1=4
     ·obtain ⟨⟨a,b⟩,c',e⟩:=hd.two _ n hn (.inl h4);rw [if_neg h1,if_neg h3,if_pos h4] at hp;rcases List.mem_append.1 hp with hp | hp
      ·exact app _ _ b hp
      ·obtain ⟨l,hl,hp⟩:=List.mem_flatten.1 hp;rw [List.mem_replicate.1 hl |>.2] at hp;exact ih _ (by omega) p hp
     ·by_cases h5:n.1=5
      ·obtain ⟨⟨a,b⟩,c',e⟩:=hd.two _ n hn (.inr h5);rw [if_neg h1,if_neg h3,if_neg h4,if_pos h5] at hp;rcases List.mem_append.1 hp with hp | hp
       ·exact ih _ (by omega) p hp
       ·exact ih _ (by omega) p hp
      ·by_cases h6:n.1=6
       ·obtain ⟨a,b⟩:=hd.one _ n hn (.inl h6);rw [if_neg h1,if_neg h3,if_neg h4,if_neg h5,if_pos h6] at hp;exact app _ _ b hp
       ·by_cases h7:n.1=7
        ·obtain ⟨a,b⟩:=hd.one _ n hn (.inr (.inl h7));rw [if_neg h1,if_neg h3,if_neg h4,if_neg h5,if_neg h6,if_pos h7] at hp;simp only at hp;split at hp
         ·exact app _ _ b hp
         ·cases hp
        ·rw [if_neg h1,if_neg h3,if_neg h4,if_neg h5,if_neg h6,if_neg h7] at hp;rw [List.mem_singleton] at hp;subst hp;exact ⟨_,_,rfl,hb⟩
theorem at_left {α:Type} {a b:List α} {i:Int} {x:α} (h:at? a i=some x):at? (a++b) i=some x:=by
 obtain ⟨k,rfl,hk⟩:=zqv h;rw [zci,List.getElem?_append_left (List.getElem?_eq_some_iff.1 hk).1];exact hk
theorem at_right {α:Type} {a b:List α} {i:Int} {x:α} (h:at? b i=some x):at? (a++b) (i+(a.length:Int))=some x:=by
 obtain ⟨k,rfl,hk⟩:=zqv h;have e:(k:Int)+(a.length:Int)=((k+a.length:Nat):Int):=by omega
 rw [e,zci,List.getElem?_append_right (by omega),Nat.add_sub_cancel];exact hk
theorem at_app {α:Type} {a b:List α} {i:Int} {x:α} (h:at? (a++b) i=some x):at? a i=some x∨at? b (i-(a.length:Int))=some x:=by
 obtain ⟨k,rfl,hk⟩:=zqv h;rcases Nat.lt_or_ge k a.length with hlt | hge
 ·rw [List.getElem?_append_left hlt] at hk;exact .inl (by rw [zci];exact hk)
 ·rw [List.getElem?_append_right hge] at hk;have e:(k:Int)-(a.length:Int)=((k-a.length:Nat):Int):=by omega
  exact .inr (by rw [e,zci];exact hk)
theorem at_one {α:Type} {x y:α} {i:Int} (h:at? [x] i=some y):i=0∧y=x:=by
 have hb:=zda h;simp at hb;obtain rfl:i=0:=by omega
 cases h;exact ⟨rfl,rfl⟩
theorem emb_left {a:List SNode} (r:List SNode):Emb a (a++r) 0:=⟨Int.le_refl _,fun i n h=>by rw [movN_zero,Int.add_zero];exact at_left h⟩
theorem wrap_len (k:Int) (a:List SNode):(zmd k a).length=a.length+1:=by simp [zmd]
theorem wrap_root (k:Int) (a:List SNode):at? (zmd k a) (a.length:Int)=some (k,(a.length:Int)-1,0,0,0,(0#256),([]:Str)):=by
 have:=at_right (a:=a) (b:=[(k,(a.length:Int)-1,0,0,0,(0#256),([]:Str))]) (i:=0) rfl;rw [Int.zero_add] at this;exact this
theorem wrap_rt {k:Int} {a:List SNode} (ha:Rt a) (hk:k=6∨k=8∨k=9) (hz:k=6→nz a ((a.length:Int)-1)=false):Rt (zmd k a):=by
 have ea:Emb a (zmd k a) 0:=emb_left _;have ta:=ha.tr.emb ea;have tr:Tr (zmd k a) 0 (((zmd k a).length:Int)-1):=by
  have e:(((zmd k a).length:Int)-1)=(a.length:Int):=by rw [wrap_len];omega
  rw [e];refine .one (wrap_root k a) (by simp only;omega) rfl rfl (fun h=>by simp only at h;omega) ?_;rw [Int.add_zero,Int.add_zero] at ta;exact ta
 have nk:=tr.nok;have hr:=ha.tr.le;refine ⟨⟨nk.two,nk.one,nk.rep,nk.kind,nk.ntx,fun i n hn h67=>?_⟩,tr⟩;unfold zmd at hn;have go:∀(A:Int) m,at? a A=some m→nz a A=false→nz (zmd k a) A=false:=fun A m hm hz=>by
  have:=nz_emb ea ha.nok nk a.length _ m (by have:=zda hm;omega) hm;rw [Int.add_zero] at this;rw [this];exact hz
 rcases at_app hn with hn | hn
 ·obtain ⟨p,q⟩:=ha.one _ n hn (by omega);obtain ⟨m,hm⟩:=zfe hn p q;exact go _ m hm (ha.nn _ n hn h67)
 ·obtain ⟨_,rfl⟩:=at_one hn;simp only at h67 ⊢;obtain ⟨m,hm,_⟩:=at_in (xs:=a) (i:=(a.length:Int)-1) hr.2 (by omega);exact go _ m hm (hz (by omega))
theorem leaf_rt {n:SNode} (hk:n.1=1∨n.1=2) (h0:n.2.1=0∧n.2.2.1=0):Rt [n]:=by
 have tr:Tr [n] 0 ((([n]:List SNode).length:Int)-1):=.leaf (e:=n) rfl (by omega) (fun h=>by omega) h0;have nk:=tr.nok;refine ⟨⟨nk.two,nk.one,nk.rep,nk.kind,nk.ntx,fun i m hm h67=>?_⟩,tr⟩;obtain ⟨_,rfl⟩:=at_one hm;omega
def zep (F:List SItem→Nat) (L:List (List SItem)):Nat:=(L.map F).sum
theorem zg4 (F:List SItem→Nat) (A B:List (List SItem)):zep F (A++B)=zep F A+zep F B:=by unfold zep;rw [List.map_append,List.sum_append]
theorem zjj (F:List SItem→Nat) (m:Nat) (L:List (List SItem)):zep F (List.replicate m L).flatten=m*zep F L:=by
 induction m with
 | zero=>simp [zep]
 | succ m ih=>rw [List.replicate_succ,List.flatten_cons,zg4,ih,Nat.succ_mul,Nat.add_comm]
theorem zg3 (F:List SItem→Nat) (g:List SItem→List SItem) (L:List (List SItem)):zep F (L.map g)=zep (fun t=>F (g t)) L:=by unfold zep;rw [List.map_map];rfl
theorem sumF_congr {F G:List SItem→Nat} {L:List (List SItem)} (h:∀t∈L,F t=G t):zep F L=zep G L:=by unfold zep;rw [List.map_congr_left h]
theorem pmI_ne {d:List SNode} (hd:ROk d) (x:SItem):∀p∈pmI d x,p≠[]:=by
 intro p hp e;subst e;have k1:∀i,[] ∉ pm d i:=fun i h=>by
  obtain ⟨y,q,e,_⟩:=PM_rng hd (i.toNat+1) i (by omega) _ h;cases e
 unfold pmI at hp;split at hp
 ·exact k1 _ hp
 ·split at hp
  ·split at hp
   ·split at hp
    ·obtain ⟨q,_,e⟩:=List.mem_map.1 hp;simp at e
    ·cases hp
   ·cases hp
  ·split at hp
   ·cases hp
   ·simp at hp
theorem hds_app {d:List SNode} (hd:ROk d) (F:List SItem→Nat) (r:List SItem):∀s,zep F (hds d (s++r))=zep (fun t=>if t=[] then zep F (hds d r) else F (t++r)) (hds d s)
 | []=>by simp [hds,zep]
 | x::s=>by
  have ih:=hds_app hd F r s;simp only [List.cons_append,hds];rw [zg4,zg4,zjj,zjj,zg3,zg3,ih]
  congr 1
  refine sumF_congr fun p hp=>?_;rw [if_neg (by have:=pmI_ne hd x p hp;simp [this]),List.append_assoc]
theorem lowF_app (s r:List SItem):zet (s++r)=if (zet s).2=true∧(zet r).2=true then ((zet s).1++(zet r).1,true) else ([],false):=by
 unfold zet;rw [List.any_append,List.map_append];cases s.any zlf <;> cases r.any zlf <;> simp
theorem readF_app {d:List SNode} {t:List SItem} (ht:t≠[]) (r:List SItem) (c:Int):zbn d (t++r) c=if (zbn d t c).2=true∧(zet r).2=true then ((zbn d t c).1++(zet r).1,true) else ([],false):=by
 cases t with
 | nil=>exact absurd rfl ht
 | cons x rest=>
  have hl:=lowF_app rest r;cases h1:(zet rest).2
  ·have e1:zbn d (x::rest) c=([],false):=by unfold zbn;simp only;rw [if_pos h1]
   have e2:(zet (rest++r)).2=false:=by rw [hl,h1];simp
   rw [e1];rw [List.cons_append];unfold zbn;simp only;rw [if_pos e2];simp
  ·cases h2:(zet r).2
   ·have e2:(zet (rest++r)).2=false:=by rw [hl,h2];simp
    rw [List.cons_append];have e3:zbn d (x::(rest++r)) c=([],false):=by unfold zbn;simp only;rw [if_pos e2]
    rw [e3,if_neg (by simp)]
   ·have e2:zet (rest++r)=((zet rest).1++(zet r).1,true):=by rw [hl,h1,h2];simp
    rw [List.cons_append];unfold zbn;simp only [e2];rw [if_neg (show ¬ true=false by simp),if_neg (show ¬ (zet rest).2=false by rw [h1];simp)];cases hn:at? d x.2.1 with
    | none=>simp
    | some n=>
     simp only
     by_cases h3:x.1=3
     ·rw [if_pos h3,if_pos h3];split
      ·simp
      ·simp
     ·rw [if_neg h3,if_neg h3]
      by_cases h4:x.1=4
      ·rw [if_pos h4,if_pos h4];simp
      ·rw [if_neg h4,if_neg h4]
       by_cases h8:n.1=8
       ·rw [if_pos h8,if_pos h8];simp
       ·rw [if_neg h8,if_neg h8]
        by_cases h9:n.1=9
        ·rw [if_pos h9,if_pos h9];simp
        ·rw [if_neg h9,if_neg h9]
         by_cases hh:n.2.2.2.2.2.1.has c.toNat=true
         ·rw [if_pos hh,if_pos hh];simp
         ·rw [if_neg hh,if_neg hh];simp
def lows:Nat→List SItem→Option (List SItem)
 | 0,s=>some s
 | p+1,s=>if (zet s).2=true then lows p (zet s).1 else none
theorem zo1 (d:List SNode) (r:Int):hds d [(1,r,0,0)]=pm d r++(List.replicate (nw d r) [[]]).flatten:=by
 have e1:pmI d (1,r,0,0)=pm d r:=rfl;have e2:nwI d (1,r,0,0)=nw d r:=rfl;simp only [hds,e1,e2,List.append_nil];rw [List.map_id']
theorem zhw (d:List SNode) (F:List SItem→Nat) (i:Int):zep F (hds d [(1,i,0,0)])=zep F (pm d i)+nw d i*F []:=by
 have e1:pmI d (1,i,0,0)=pm d i:=rfl;have e2:nwI d (1,i,0,0)=nw d i:=rfl;simp only [hds,e1,e2,List.append_nil];rw [List.map_id',zg4,zjj];simp [zep]
theorem zmx (d:List SNode) (F:List SItem→Nat) (i:Int) (r:List SItem):zep F (hds d ((1,i,0,0)::r))=zep (fun p=>F (p++r)) (pm d i)+nw d i*zep F (hds d r):=by
 have e1:pmI d (1,i,0,0)=pm d i:=rfl;have e2:nwI d (1,i,0,0)=nw d i:=rfl;simp only [hds,e1,e2];rw [zg4,zjj,zg3]
theorem zp9 {d:List SNode} (hd:ROk d) {i:Int} {n:SNode} (hn:at? d i=some n) (h:n.1=6∨n.1=7):nw d n.2.1=0:=by
 obtain ⟨p,q⟩:=hd.one _ n hn (by omega);obtain ⟨m,hm⟩:=zfe hn p q;have:=zkg hd (n.2.1.toNat+1) _ m (by omega) hm;rw [hd.nn _ n hn h] at this;rcases Nat.eq_zero_or_pos (nw d n.2.1) with h0 | h0
 ·exact h0
 ·have:=this.1 (by omega);cases this
def NoEnd (s:List SItem):Prop:=∀x∈s,x.1≠5
theorem lowF_plain {s:List SItem} (h:NoEnd s):zet s=(s,true):=by
 unfold zet;have h1:s.any zlf=false:=by
  rw [List.any_eq_false];intro x hx;simp [zlf,h x hx]
 rw [h1];simp only [Bool.false_eq_true,if_false,Prod.mk.injEq,and_true];have:∀x∈s,zlg x=id x:=fun x hx=>by unfold zlg;rw [if_neg (h x hx)];rfl
 rw [List.map_congr_left this,List.map_id]
theorem zfu {s:List SItem} (h:NoEnd s):∀p,lows p s=some s
 | 0=>rfl
 | p+1=>by
  unfold lows;rw [lowF_plain h];simp only [if_true];exact zfu h p
section
variable {d : List SNode} (hd : ROk d) {i : Int} {n : SNode} (hn : at? d i = some n)
include hd hn
theorem zp4 (h:n.1=2∨n.1=8∨n.1=9):pm d i=[[(1,i,0,0)]]∧nw d i=0:=by
 have e:=zop hd hn;rw [if_neg (by omega),if_neg (by omega),if_neg (by omega),if_neg (by omega),if_neg (by omega),if_neg (by omega)] at e;have h1:pm d i=(PM d d.length i).1:=rfl;have h2:nw d i=(PM d d.length i).2:=rfl;rw [h1,h2,e];exact ⟨rfl,rfl⟩
end
end Go.Proofs.YtahgmdbioafmbaaGreatDoor.V
namespace Go.Proofs.YtahgmdbioafmbaaGreatDoor.V
open Go
set_option linter.unusedVariables false
theorem lows_end (m:Int) (hm:0≤m):∀p:Nat,lows p [(5,0,m,0)]=if (p:Int)≤m then some [(5,0,m-p,0)] else none:=by
 intro p
 induction p generalizing m with
 | zero=>simp [lows,hm]
 | succ p ih=>
  unfold lows
  by_cases h0:m≤0
  ·have e:zet [(5,0,m,0)]=([],false):=by simp [zet,zlf,h0]
   rw [e,if_neg (by simp),if_neg (by omega)]
  ·have e:zet [(5,0,m,0)]=([(5,0,m-1,0)],true):=by simp [zet,zlf,zlg,h0]
   rw [e];simp only [if_true];rw [ih (m-1) (by omega)]
   by_cases h1:((p+1:Nat):Int)≤m
   ·rw [if_pos (by omega),if_pos h1]
    congr 3
    simp;omega
   ·rw [if_neg (by omega),if_neg h1]
section
variable {d : List SNode} (hd : ROk d)
include hd
variable {i : Int} {n : SNode} (hn : at? d i = some n)
include hn
end
end Go.Proofs.YtahgmdbioafmbaaGreatDoor.V
namespace Go.Proofs.YtahgmdbioafmbaaGreatDoor.V
open Go
set_option linter.unusedVariables false
theorem zno {d:List SNode} {s:List SItem} (h:Sm d s) {B:List SBranch} (hB:Can (fun t=>(hds d s).count t) B):B.length≤10001:=by
 have h0:=znt hB (U:=CS d s) fun t ht=>hds_CS d s t (List.count_pos_iff.1 (by omega));have h1:=CS_few h.rt s;have h3:=h.slen;have h4:s.length*(d.length+1)≤400*25:=Nat.mul_le_mul h3 (by have:=h.len;omega);omega
theorem heads_ok {d:List SNode} {s:List SItem} (h:Sm d s) {t:List SItem} (ht:(hds d s).count t≠0):t.length≤424∧rdy d t=true∧zd4 d t=true:=by
 obtain ⟨L,⟨k,hk⟩,hp⟩:=hds_lv h.rt.toROk s h.form;have hm:t∈L:=hp.mem_iff.2 (List.count_pos_iff.1 (by omega));obtain ⟨h1,h2⟩:=lv_vs h.rt.toROk (n0:=400) k s L hk (Vs.start h.form h.slen) t hm;have:=h1.len;have:=h.len;exact ⟨by omega,h2,h1.form⟩
def fB (d:List SNode) (c:Int) (B:List SBranch) (u:List SItem):Nat:=(B.map fun b=>if (zbn d b.1 c).2=true∧(zbn d b.1 c).1=u then b.2.toNat else 0).sum
theorem fB_snoc (d:List SNode) (c:Int) (B:List SBranch) (b:SBranch) (u:List SItem):fB d c (B++[b]) u=fB d c B u+if (zbn d b.1 c).2=true∧(zbn d b.1 c).1=u then b.2.toNat else 0:=by
 simp [fB]
theorem fB_pos {d:List SNode} {c:Int} {B:List SBranch} {u:List SItem} (h:fB d c B u≠0):∃b∈B,(zbn d b.1 c).2=true∧(zbn d b.1 c).1=u:=by
 induction B with
 | nil=>simp [fB] at h
 | cons b B ih=>
  by_cases hb:(zbn d b.1 c).2=true∧(zbn d b.1 c).1=u
  ·exact ⟨b,by simp,hb⟩
  ·have e:fB d c (b::B) u=fB d c B u:=by
    unfold fB;rw [List.map_cons,List.sum_cons,if_neg hb,Nat.zero_add]
   rw [e] at h;obtain ⟨b',h1,h2⟩:=ih h;exact ⟨b',by simp [h1],h2⟩
structure HOk (d:List SNode) (B:List SBranch):Prop where
 few:B.length≤10001
 ok:∀b∈B,b.1.length≤424∧rdy d b.1=true∧zd4 d b.1=true
 many:∀b∈B,1≤b.2∧b.2≤2
theorem Sm.hok {d:List SNode} {s:List SItem} (h:Sm d s) {B:List SBranch} (hB:Can (fun t=>(hds d s).count t) B):HOk d B:=
 ⟨zno h hB,fun b hb=>heads_ok h (hB.many hb).2.1,fun b hb=>(hB.many hb).2.2⟩
theorem fB_read {d:List SNode} {c:Int} {B:List SBranch} (h:HOk d B) {u:List SItem} (hu:fB d c B u≠0):u.length≤425:=by
 obtain ⟨b,hb,_,rfl⟩:=fB_pos hu;have:=zk0 d b.1 c;have:=(h.ok b hb).1;omega
theorem onB_len {d:List SNode} {c:Int} {B:List SBranch} {R:List SBranch} (hR:Can (fB d c B) R):R.length≤B.length:=by
 have:=znt hR (U:=B.map fun b=>(zbn d b.1 c).1) fun u hu=>by
  obtain ⟨b,hb,_,e⟩:=fB_pos hu;exact List.mem_map.2 ⟨b,hb,e⟩
 simpa using this
theorem HOk.take {d:List SNode} {B:List SBranch} (h:HOk d B) (i:Nat):HOk d (B.take i):=
 ⟨by have:=h.few;rw [List.length_take];omega,fun b hb=>h.ok b (List.mem_of_mem_take hb),fun b hb=>h.many b (List.mem_of_mem_take hb)⟩
section
variable {d : List SNode} (hd : ROk d) (hl : d.length ≤ 1000) (ht : ∀ n ∈ d,n.2.2.2.2.2.2.length ≤ 140737488351232) {c : Int} (hc : InR .u8 c) {B : List SBranch} (hB : HOk d B)
include hd hl ht hc hB
theorem ref15_On_l:∃R,(∃k,zdo.l1 d c B (zdo.j1 R) k [] 0)∧Can (fB d c B) R:=by
 have key:∀(m i:Nat) (out:List SBranch),i+m=B.length→Can (fB d c (B.take i)) out→∃(R:List SBranch) (k:Nat),zdo.l1 d c B (zdo.j1 R) k out (i:Int)∧Can (fB d c B) R:=by
  intro m
  induction m with
  | zero=>
   intro i out hi ho;rw [List.take_of_length_le (by omega)] at ho;exact ⟨out,1,⟨fun h=>absurd (dt h) (by omega),fun _=>rfl⟩,ho⟩
  | succ m ih=>
   intro i out hi ho;have hil:i<B.length:=by omega
   have hat:at? B (i:Int)=some B[i]:=by rw [zci];simp [hil]
   have hbm:=List.getElem_mem hil;obtain ⟨b1,b2,b3⟩:=hB.ok _ hbm;obtain ⟨m1,m2⟩:=hB.many _ hbm;have hrd:=zpk hd hl ht (by omega) b3 b2 hc;have e:=fB_snoc d c (B.take i) B[i];rw [← List.take_succ_eq_append_getElem hil] at e;have hfew:=hB.few;cases hr:(zbn d B[i].1 c).2
   ·obtain ⟨R,k,hk1,hk2⟩:=ih (i+1) out (by omega) (ho.congr fun t=>by rw [e,hr];simp);exact ⟨R,k+1,⟨fun _=>⟨_,hat,_,hrd,(fun h=>by rw [hr] at h;cases h),fun _=>⟨zn (by omega) (by omega),hk1⟩⟩,fun h=>absurd (by omega) (df h)⟩,hk2⟩
   ·have hn:(B[i].2.toNat:Nat)≠0:=by omega
    have hsat:sat B[i].2.toNat=B[i].2:=by unfold sat;omega
    have hadd:=ho.add (zbn d B[i].1 c).1 hn;rw [hsat] at hadd;have hol:=onB_len ho;have hbo:BrOk out:=ho.brok fun t ht=>by have:=fB_read (hB.take i) ht;omega
    have hrl:=zk0 d B[i].1 c;obtain ⟨R,k,hk1,hk2⟩:=ih (i+1) (zlx (zbn d B[i].1 c).1 B[i].2 out) (by omega) (hadd.congr fun t=>by
     rw [e,hr];simp only [true_and,eq_comm])
    exact ⟨R,k+1,⟨fun _=>⟨_,hat,_,hrd,fun _=>⟨_,hat,_,zi4 ho.srt hbo (by rw [List.length_take] at hol;omega) (by omega) ⟨by omega,by omega⟩,zn (by omega) (by omega),hk1⟩,(fun h=>by rw [hr] at h;cases h)⟩,fun h=>absurd (by omega) (df h)⟩,hk2⟩
 obtain ⟨R,k,h1,h2⟩:=key B.length 0 [] (by omega) (Can.nil.congr fun t=>by simp [fB]);exact ⟨R,⟨k,h1⟩,h2⟩
structure MapN (f:List SItem→Nat) (m:List (Str × Int)):Prop where
 kn:KN m
 mem:∀k v,(k,v)∈m↔∃u,k=keyS u∧f u≠0∧v=sat (f u)
omit hd hl ht hc hB in
theorem MapN.get {f:List SItem→Nat} {m} (h:MapN f m) (u:List SItem):ze4 m (keyS u) (0:Int)=sat (f u):=by
 by_cases hu:f u=0
 ·rw [zh1 fun p hp e=>?_]
  ·rw [hu];rfl
  ·obtain ⟨k,v⟩:=p
   obtain ⟨w,h1,h2,_⟩:=(h.mem k v).1 hp
   simp only at e
   rw [e] at h1
   rw [zhc.1 h1] at hu
   exact h2 hu
 ·have hm:=(h.mem (keyS u) (sat (f u))).2 ⟨u,rfl,hu,rfl⟩
  exact zml h.kn hm (0:Int)
omit hd hl ht hc hB in
theorem MapN.put {f:List SItem→Nat} {m} (h:MapN f m) (u:List SItem) {n:Nat} (hn:n≠0) {v:Int} (hv:v=sat (f u+n)):MapN (fun t=>f t+if t=u then n else 0) (zgi m (keyS u) v):=by
 refine ⟨mput_kn h.kn _ _,fun k w=>?_⟩
 rw [zqa,h.mem,Prod.mk.injEq]
 constructor
 ·rintro (⟨h1,h2⟩ | ⟨h1,u',h2,h3,h4⟩)
  ·exact ⟨u,h1,by simp;omega,by rw [h2,hv];simp⟩
  ·have hne:u'≠u:=fun e=>h1 (by rw [h2,e])
   exact ⟨u',h2,by simp [hne,h3],by rw [h4];simp [hne]⟩
 ·rintro ⟨u',h1,h2,h3⟩
  by_cases e:u'=u
  ·subst e;exact .inl ⟨h1,by rw [h3,hv];simp⟩
  ·refine .inr ⟨fun e'=>e (zhc.1 (h1.symm.trans e')),u',h1, ?_, ?_⟩
   ·simpa [e] using h2
   ·rw [h3];simp [e]
theorem next_On_l:∃R,(∃k,zb0.l2 d c B (zb0.j2 R) k [] [] 0)∧Can (fB d c B) R:=by
 have hfew:=hB.few;have last:∀(many:List (Str × Int)) (out:List SBranch),MapN (fB d c B) many→(out.map (·.1)).Nodup→(∀u,u∈out.map (·.1)↔fB d c B u≠0)→out.length≤10001→∃R,zb0.j2 R many out∧Can (fB d c B) R:=by
  intro many out hm hn ho hlen;have hlo:∀b∈out,b.1.length≤1000:=fun b hb=>by
   have:=fB_read hB ((ho b.1).1 (List.mem_map.2 ⟨b,hb,rfl⟩));omega
  let out':=out.map fun b=>(b.1,sat (fB d c B b.1))
  have e1:out'.map (·.1)=out.map (·.1):=by simp [out',Function.comp_def]
  have hn':(out'.map (·.1)).Nodup:=by rw [e1];exact hn
  have hcan:Can (fB d c B) (srtB out'):=by
   refine ⟨zmk hn',fun t m=>?_⟩;rw [(zgr out').mem_iff];constructor
   ·intro h;obtain ⟨b,hb,e⟩:=List.mem_map.1 h;simp only [Prod.mk.injEq] at e;obtain ⟨rfl,rfl⟩:=e;exact ⟨(ho _).1 (List.mem_map.2 ⟨b,hb,rfl⟩),rfl⟩
   ·rintro ⟨h1,h2⟩;obtain ⟨b,hb,e⟩:=List.mem_map.1 ((ho t).2 h1);exact List.mem_map.2 ⟨b,hb,by rw [e,h2]⟩
  refine ⟨srtB out', ?_,hcan⟩;refine zg1 (P:=fun k (o:List SBranch) v=>zb0.l1 many out (zb0.j1 (srtB out')) k o v) out.length (fun i o=>o=out'.take i++out.drop i) ?_ ?_ out (by simp)
  ·rintro i o hi rfl;have hl1:(out'.take i).length=i:=by simp [out'];omega
   have hat:at? (out'.take i++out.drop i) (i:Int)=some out[i]:=by
    rw [zci,List.getElem?_append_right (by omega),hl1,Nat.sub_self];simp [hi]
   have hset:(out'.take i++out.drop i).set i (out[i].1,sat (fB d c B out[i].1))=out'.take (i+1)++out.drop (i+1):=by
    rw [List.set_append_right _ _ (by omega),hl1,Nat.sub_self,List.drop_eq_getElem_cons hi,List.set_cons_zero,List.take_succ_eq_append_getElem (show i<out'.length by simp [out'];exact hi)];simp [out']
   refine .inr ⟨_,rfl,fun k hk=>⟨fun _=>⟨_,hat,_,⟨hlo _ (List.getElem_mem hi),rfl⟩,_,hat,zn (by omega) (by omega), ?_⟩,fun h=>absurd (by omega) (df h)⟩⟩;rw [hm.get,Int.toNat_natCast,hset];exact hk
  ·rintro o rfl k;refine ⟨fun h=>absurd (dt h) (by omega),fun _=>?_⟩;have hl2:out'.length=out.length:=by simp [out']
   rw [List.take_of_length_le (by omega),List.drop_length,List.append_nil];exact ⟨_,⟨hn',fun b hb=>by
    obtain ⟨b',hb',rfl⟩:=List.mem_map.1 hb;exact hlo b' hb',by omega,rfl⟩,rfl⟩
 have key:∀(m i:Nat) (many:List (Str × Int)) (out:List SBranch),i+m=B.length→MapN (fB d c (B.take i)) many→(out.map (·.1)).Nodup→(∀u,u∈out.map (·.1)↔fB d c (B.take i) u≠0)→out.length≤i→∃(R:List SBranch) (k:Nat),zb0.l2 d c B (zb0.j2 R) k many out (i:Int)∧Can (fB d c B) R:=by
  intro m
  induction m with
  | zero=>
   intro i many out hi hm hn ho hlen;rw [List.take_of_length_le (by omega)] at hm ho;obtain ⟨R,h1,h2⟩:=last many out hm hn ho (by omega);exact ⟨R,1,⟨fun h=>absurd (dt h) (by omega),fun _=>h1⟩,h2⟩
  | succ m ih=>
   intro i many out hi hm hn ho hlen;have hil:i<B.length:=by omega
   have hat:at? B (i:Int)=some B[i]:=by rw [zci];simp [hil]
   have hbm:=List.getElem_mem hil;obtain ⟨b1,b2,b3⟩:=hB.ok _ hbm;obtain ⟨m1,m2⟩:=hB.many _ hbm;have hrd:=next_Read_in hd hl ht (by omega) b3 b2 hc;have hrl:=zk0 d B[i].1 c;have e:=fB_snoc d c (B.take i) B[i];rw [← List.take_succ_eq_append_getElem hil] at e;cases hr:(zbn d B[i].1 c).2
   ·have e0:∀u,fB d c (B.take (i+1)) u=fB d c (B.take i) u:=fun u=>by rw [e,hr];simp
    have e0':fB d c (B.take (i+1))=fB d c (B.take i):=funext e0;obtain ⟨R,k,hk1,hk2⟩:=ih (i+1) many out (by omega) (by rw [e0'];exact hm) hn (by rw [e0'];exact ho) (by omega);exact ⟨R,k+1,⟨fun _=>⟨_,hat,_,hrd,fun _=>⟨zn (by omega) (by omega),hk1⟩,(fun h=>by rw [hr] at h;cases h)⟩,fun h=>absurd (by omega) (df h)⟩,hk2⟩
   ·have hn0:B[i].2.toNat≠0:=by omega
    have hg:=hm.get (zbn d B[i].1 c).1;have hv:min (ze4 many (keyS (zbn d B[i].1 c).1) 0+B[i].2) 2=sat (fB d c (B.take i) (zbn d B[i].1 c).1+B[i].2.toNat):=by
     rw [hg];unfold sat;omega
    have e0':fB d c (B.take (i+1))=fun t=>fB d c (B.take i) t+if t=(zbn d B[i].1 c).1 then B[i].2.toNat else 0:=funext fun u=>by
     rw [e,hr];simp only [true_and,eq_comm]
    have hput:=hm.put (zbn d B[i].1 c).1 hn0 hv;rw [← e0'] at hput;have hin:InR .i64 (ze4 many (keyS (zbn d B[i].1 c).1) 0+B[i].2):=by rw [hg];unfold sat;exact zn (by omega) (by omega)
    by_cases h0:fB d c (B.take i) (zbn d B[i].1 c).1=0
    ·obtain ⟨R,k,hk1,hk2⟩:=ih (i+1) _ (out++[((zbn d B[i].1 c).1,0)]) (by omega) hput (by
      rw [List.map_append,List.nodup_append];refine ⟨hn,by simp,fun a ha b hb e=>?_⟩;simp at hb;subst hb;subst e;exact (ho _).1 ha h0) (fun u=>by
      rw [e0',List.map_append,List.mem_append,ho]
      by_cases hu:u=(zbn d B[i].1 c).1
      ·subst hu;simp;omega
      ·simp [hu]) (by simp;omega)
     refine ⟨R,k+1,⟨fun _=>⟨_,hat,_,hrd,fun h=>by rw [hr] at h;simp at h,fun _=>⟨_,⟨by omega,rfl⟩,fun _=>⟨by simp;omega,hin,zn (by omega) (by omega),hk1⟩,fun h=>?_⟩⟩,fun h=>absurd (by omega) (df h)⟩,hk2⟩;rw [hg,h0] at h;simp [sat] at h
    ·obtain ⟨R,k,hk1,hk2⟩:=ih (i+1) _ out (by omega) hput hn (fun u=>by
      rw [e0',ho]
      by_cases hu:u=(zbn d B[i].1 c).1
      ·subst hu;simp [h0]
      ·simp [hu]) (by omega)
     refine ⟨R,k+1,⟨fun _=>⟨_,hat,_,hrd,fun h=>by rw [hr] at h;simp at h,fun _=>⟨_,⟨by omega,rfl⟩,fun h=>?_,fun _=>⟨hin,zn (by omega) (by omega),hk1⟩⟩⟩,fun h=>absurd (by omega) (df h)⟩,hk2⟩;exfalso;rw [hg] at h;have:=eq_of_beq h;unfold sat at this;omega
 obtain ⟨R,k,h1,h2⟩:=key B.length 0 [] [] (by omega) ⟨List.nodup_nil,fun k v=>by simp [fB]⟩ (by simp) (by simp [fB]) (by simp);exact ⟨R,⟨k,h1⟩,h2⟩
end
theorem on_both {d:List SNode} {s:List SItem} (h:Sm d s) {c:Int} (hc:InR .u8 c):∃B R,zfv d s B∧Can (fun t=>(hds d s).count t) B∧zb0 d s c R∧zdo d s c R∧Can (fB d c B) R:=by
 obtain ⟨B,b1,b2,b3⟩:=zlw h;have hB:=h.hok b3;have hl:d.length≤1000:=by have:=h.len;omega
 obtain ⟨R,⟨k,h1⟩,h2⟩:=next_On_l h.rt.toROk hl h.txt hc hB;obtain ⟨R',⟨k',h1'⟩,h2'⟩:=ref15_On_l h.rt.toROk hl h.txt hc hB;have e:=h2'.uniq h2;subst e;exact ⟨B,R',b1,b3,⟨B,b1,k,h1⟩,⟨B,b2,k',h1'⟩,h2⟩
end Go.Proofs.YtahgmdbioafmbaaGreatDoor.V
namespace Go.Proofs.YtahgmdbioafmbaaGreatDoor.V
open Go
set_option linter.unusedVariables false
def zei (d:List SNode) (c:Int) (s:List SItem):List (List SItem):=(hds d s).filterMap fun t=>if (zbn d t c).2=true then some (zbn d t c).1 else none
def zdz (d:List SNode):List Int→List SItem→List (List SItem)
 | [],s=>[s]
 | c::w,s=>(zei d c s).flatMap (zdz d w)
theorem zo2 (d:List SNode) (c:Int):∀(w:List Int) (s:List SItem),zdz d (w++[c]) s=(zdz d w s).flatMap (zei d c)
 | [],s=>by
  show (zei d c s).flatMap (zdz d [])=_;have:zdz d []=fun t=>[t]:=by funext t;rfl
  rw [this];simp
 | e::w,s=>by
  show (zei d e s).flatMap (zdz d (w++[c]))=((zei d e s).flatMap (zdz d w)).flatMap (zei d c);rw [List.flatMap_assoc]
  congr 1
  funext t;exact zo2 d c w t
theorem sumF_step (d:List SNode) (c:Int) (G:List SItem→Nat) (s:List SItem):zep G (zei d c s)=zep (fun t=>if (zbn d t c).2=true then G (zbn d t c).1 else 0) (hds d s):=by
 unfold zei
 induction hds d s with
 | nil=>rfl
 | cons t L ih=>
  rw [List.filterMap_cons]
  by_cases h:(zbn d t c).2=true
  ·simp only [h,if_true];have:∀x (M:List (List SItem)),zep G (x::M)=G x+zep G M:=fun x M=>by simp [zep]
   rw [this,ih];simp [zep,h]
  ·simp only [h];rw [show zep (fun t=>if (zbn d t c).2=true then G (zbn d t c).1 else 0) (t::L)=zep (fun t=>if (zbn d t c).2=true then G (zbn d t c).1 else 0) L by simp [zep,h]];exact ih
theorem zos {α:Type} (K:List α):(K.map fun _=>(0:Nat)).sum=0:=by
 induction K with
 | nil=>rfl
 | cons a K ih=>rw [List.map_cons,List.sum_cons,ih]
theorem zor {g:List SItem→Nat} {t:List SItem}:∀{K:List (List SItem)},K.Nodup→t∈K→(K.map fun k=>(if k=t then 1 else 0)*g k).sum=g t
 | [],_,h=>by cases h
 | k::K,hn,h=>by
  rw [List.nodup_cons] at hn;rw [List.map_cons,List.sum_cons]
  by_cases e:k=t
  ·subst e;have z:(K.map fun k'=>(if k'=k then 1 else 0)*g k').sum=0:=by
    have:∀k'∈K,(if k'=k then 1 else 0)*g k'=0:=fun k' hk=>by
     have hne:k'≠k:=fun e'=>hn.1 (by rw [← e'];exact hk);rw [if_neg hne,Nat.zero_mul]
    rw [List.map_congr_left this,zos]
   rw [z];simp
  ·rw [if_neg e,Nat.zero_mul,Nat.zero_add];exact zor hn.2 ((List.mem_cons.1 h).resolve_left fun h'=>e h'.symm)
theorem sum_by {g:List SItem→Nat} {K:List (List SItem)} (hn:K.Nodup):∀(L:List (List SItem)),(∀t∈L,t∈K)→zep g L=(K.map fun k=>L.count k*g k).sum
 | [],_=>by
  have:∀k∈K,([]:List (List SItem)).count k*g k=0:=fun k _=>by simp
  rw [List.map_congr_left this,zos];rfl
 | t::L,h=>by
  have ih:=sum_by hn (g:=g) L fun u hu=>h u (by simp [hu]);have e1:zep g (t::L)=g t+zep g L:=by simp [zep]
  have e2:(K.map fun k=>(t::L).count k*g k).sum=(K.map fun k=>L.count k*g k).sum+(K.map fun k=>(if k=t then 1 else 0)*g k).sum:=by
   clear h ih e1 hn
   induction K with
   | nil=>rfl
   | cons a K ih=>
    simp only [List.map_cons,List.sum_cons];rw [ih,List.count_cons,Nat.add_mul];have:(if (t==a)=true then 1 else 0)=(if a=t then 1 else 0):=by
     by_cases h:a=t
     ·subst h;simp
     ·rw [if_neg (by simpa using fun e=>h e.symm),if_neg h]
    rw [this];omega
  rw [e1,ih,e2,zor hn (h t (by simp))];omega
theorem fB_step {d:List SNode} {s:List SItem} {B:List SBranch} (hB:Can (fun t=>(hds d s).count t) B) (c:Int) (u:List SItem):sat (fB d c B u)=sat ((zei d c s).count u):=by
 have e1:(zei d c s).count u=zep (fun t=>if t=u then 1 else 0) (zei d c s):=by
  induction zei d c s with
  | nil=>rfl
  | cons t L ih=>
   rw [List.count_cons,ih];unfold zep;rw [List.map_cons,List.sum_cons]
   by_cases h:t=u
   ·simp [h];omega
   ·simp [h]
 rw [e1,sumF_step,sum_by hB.nodup (hds d s) fun t ht=>(hB.keys t).2 (by have:=List.count_pos_iff.2 ht;omega),List.map_map];unfold fB;have key:∀b∈B,sat (if (zbn d b.1 c).2=true∧(zbn d b.1 c).1=u then b.2.toNat else 0)=sat ((hds d s).count b.1*if (zbn d b.1 c).2=true then (if (zbn d b.1 c).1=u then 1 else 0) else 0):=fun b hb=>by
  have h1:=(hB.many hb).1
  by_cases h2:(zbn d b.1 c).2=true
  ·by_cases h3:(zbn d b.1 c).1=u
   ·rw [if_pos ⟨h2,h3⟩,if_pos h2,if_pos h3,Nat.mul_one,h1];unfold sat;omega
   ·rw [if_neg fun e=>h3 e.2,if_pos h2,if_neg h3];rfl
  ·rw [if_neg fun e=>h2 e.1,if_neg h2];rfl
 clear hB e1
 induction B with
 | nil=>rfl
 | cons b B ih=>
  have k1:=key b (by simp);have k2:=ih fun b' hb'=>key b' (by simp [hb']);simp only [List.map_cons,List.sum_cons,Function.comp] at k2 ⊢;unfold sat at *;omega
theorem next_Ends_l {B:List SBranch} {f:List SItem→Nat} (hB:Can f B) (hl:B.length≤10001):∃k,zdm.l1 B (sat (f [])) (zdm.j1 (sat (f []))) k 0:=by
 refine zg1 (P:=fun k (_:Unit) v=>zdm.l1 B (sat (f [])) _ k v) B.length (fun i _=>∀b∈B.take i,b.1≠[]) ?_ ?_ () (by simp)
 ·intro i _ hi hn;have hat:at? B (i:Int)=some B[i]:=by rw [zci];simp [hi]
  by_cases h0:B[i].1=[]
  ·refine .inl fun k=>⟨fun _=>⟨_,hat,fun _=>?_,fun h=>by rw [h0] at h;simp at h⟩,fun h=>absurd (by omega) (df h)⟩;have:=(hB.many (List.getElem_mem hi)).1;rw [h0] at this;exact this.symm
  ·refine .inr ⟨(),fun b hb=>?_,fun k hk=>⟨fun _=>⟨_,hat,fun h=>absurd (by simpa using h) h0,fun _=>⟨zn (by omega) (by omega),hk⟩⟩,fun h=>absurd (by omega) (df h)⟩⟩;rw [List.take_succ_eq_append_getElem hi] at hb;rcases List.mem_append.1 hb with hb | hb
   ·exact hn b hb
   ·rw [List.mem_singleton.1 hb];exact h0
 ·intro _ hn k;refine ⟨fun h=>absurd (dt h) (by omega),fun _=>?_⟩;show sat (f [])=0;rw [List.take_length] at hn;have:f []=0:=by
   rcases Nat.eq_zero_or_pos (f []) with h | h
   ·exact h
   ·obtain ⟨b,hb,e⟩:=List.mem_map.1 ((hB.keys []).2 (by omega));exact absurd e (hn b hb)
  rw [this];rfl
theorem ref15_Ends_l {B:List SBranch} {f:List SItem→Nat} (hB:Can f B) (hl:B.length≤10001):∃k,zcx.l1 B (sat (f [])) (zcx.j1 (sat (f []))) k 0:=by
 refine zg1 (P:=fun k (_:Unit) v=>zcx.l1 B (sat (f [])) _ k v) B.length (fun i _=>∀b∈B.take i,b.1≠[]) ?_ ?_ () (by simp)
 ·intro i _ hi hn;have hat:at? B (i:Int)=some B[i]:=by rw [zci];simp [hi]
  by_cases h0:B[i].1=[]
  ·refine .inl fun k=>⟨fun _=>⟨_,hat,fun _=>⟨_,hat, ?_⟩,fun h=>by rw [h0] at h;simp at h⟩,fun h=>absurd (by omega) (df h)⟩;have:=(hB.many (List.getElem_mem hi)).1;rw [h0] at this;exact this.symm
  ·refine .inr ⟨(),fun b hb=>?_,fun k hk=>⟨fun _=>⟨_,hat,fun h=>absurd (by simpa using h) h0,fun _=>⟨zn (by omega) (by omega),hk⟩⟩,fun h=>absurd (by omega) (df h)⟩⟩;rw [List.take_succ_eq_append_getElem hi] at hb;rcases List.mem_append.1 hb with hb | hb
   ·exact hn b hb
   ·rw [List.mem_singleton.1 hb];exact h0
 ·intro _ hn k;refine ⟨fun h=>absurd (dt h) (by omega),fun _=>?_⟩;show sat (f [])=0;rw [List.take_length] at hn;have:f []=0:=by
   rcases Nat.eq_zero_or_pos (f []) with h | h
   ·exact h
   ·obtain ⟨b,hb,e⟩:=List.mem_map.1 ((hB.keys []).2 (by omega));exact absurd e (hn b hb)
  rw [this];rfl
theorem ends_both {d:List SNode} {s:List SItem} (h:Sm d s):zdm d s (sat ((hds d s).count []))∧zcx d s (sat ((hds d s).count [])):=by
 obtain ⟨B,b1,b2,b3⟩:=zlw h;have hl:=zno h b3;exact ⟨⟨B,b1,next_Ends_l b3 hl⟩,⟨B,b2,ref15_Ends_l b3 hl⟩⟩
def sing:List Cl:=(List.range 256).map fun (c:Nat)=>Cl.row ((c:Int) % 256) ((c:Int) % 256)
def clsF (d:List SNode) (t:List SItem):List Cl:=
 match t with
 | []=>[]
 | x::_=>match at? d x.2.1 with
  | none=>[]
  | some n=>if x.1=3 then [Cl.row ((zfz n.2.2.2.2.2.2 x.2.2.1).getD 0) ((zfz n.2.2.2.2.2.2 x.2.2.1).getD 0)] else if n.1=2 then [n.2.2.2.2.2.1] else sing
def zl7 (d:List SNode) (B:List SBranch):List Cl:=B.flatMap fun b=>clsF d b.1
theorem zjm:sing.length=256:=by simp [sing]
theorem clsF_len (d:List SNode) (t:List SItem):(clsF d t).length≤256:=by
 unfold clsF;cases t with
 | nil=>simp
 | cons x t=>
  simp only;cases at? d x.2.1 with
  | none=>simp
  | some n=>
   simp only;split
   ·simp
   ·split
    ·simp
    ·rw [zjm];exact Nat.le_refl _
theorem zmn (d:List SNode):∀B:List SBranch,(zl7 d B).length≤256*B.length
 | []=>by simp [zl7]
 | b::B=>by
  have h1:=clsF_len d b.1;have h2:=zmn d B;unfold zl7 at *;simp only [List.flatMap_cons,List.length_append,List.length_cons];omega
theorem clsB_snoc (d:List SNode) (B:List SBranch) (b:SBranch):zl7 d (B++[b])=zl7 d B++clsF d b.1:=by simp [zl7]
theorem znf:zb7 sing:=by
 refine zg1 (P:=fun k (o:List Cl) v=>zb7.l1 (zb7.j1 sing) k o v) 256 (fun i o=>o=sing.take i) ?_ ?_ [] (by simp)
 ·rintro i o hi rfl;have e:sing.take (i+1)=sing.take i++[Cl.row ((i:Int) % 256) ((i:Int) % 256)]:=by
   rw [List.take_succ_eq_append_getElem (by rw [zjm];exact hi)];simp [sing]
  refine .inr ⟨_,rfl,fun k hk=>⟨fun _=>⟨_,zns,by rw [List.length_take];simp;omega,zn (by omega) (by omega), ?_⟩,fun h=>absurd (by omega) (df h)⟩⟩;rw [e] at hk;exact hk
 ·rintro o rfl k;refine ⟨fun h=>absurd (dt h) (by omega),fun _=>?_⟩;show sing=sing.take 256;rw [List.take_of_length_le (by rw [zjm];exact Nat.le_refl _)]
theorem zoj {d:List SNode} {B:List SBranch} (hB:HOk d B):∃k,zbl.l1 d B (zbl.j1 (zl7 d B)) k [] 0:=by
 have hfew:=hB.few;refine zg1 (P:=fun k (o:List Cl) v=>zbl.l1 d B (zbl.j1 (zl7 d B)) k o v) B.length (fun i o=>o=zl7 d (B.take i)) ?_ ?_ [] (by simp [zl7])
 ·rintro i o hi rfl;have hat:at? B (i:Int)=some B[i]:=by rw [zci];simp [hi]
  obtain ⟨b1,b2,b3⟩:=hB.ok _ (List.getElem_mem hi);have hlen:=zmn d (B.take i);rw [List.length_take] at hlen;have e:zl7 d (B.take (i+1))=zl7 d (B.take i)++clsF d B[i].1:=by rw [List.take_succ_eq_append_getElem hi,clsB_snoc]
  refine .inr ⟨_,rfl,fun k hk=>⟨fun _=>⟨_,hat,fun h0=>?_,fun h0=>?_⟩,fun h=>absurd (by omega) (df h)⟩⟩
  ·have h1:B[i].1=[]:=by simpa using h0
   rw [e,h1] at hk;simp only [clsF,List.append_nil] at hk;exact ⟨zn (by omega) (by omega),hk⟩
  ·rw [e] at hk;generalize B[i].1=t at *;cases t with
   | nil=>simp at h0
   | cons x rest=>
    obtain ⟨n,hn,hm,hkk⟩:=zk2 b3 b2;simp only [clsF,hn] at hk;refine ⟨x,rfl,n,hn,fun h3=>?_,fun h3=>⟨fun h2=>?_,fun h2=>?_⟩⟩
    ·have h3':=eq_of_beq h3;rw [if_pos h3'] at hk;obtain ⟨_,_,h6,h7⟩:n.1=3∧x.2.2.2=0∧0≤x.2.2.1∧x.2.2.1<(n.2.2.2.2.2.2.length:Int):=by
      rcases hkk with ⟨h,_⟩ | ⟨_,h⟩ | ⟨h,_⟩
      ·omega
      ·exact h
      ·omega
     obtain ⟨b,hb2,_⟩:=zqu h6 h7;rw [hb2] at hk;exact ⟨b,hb2,b,hb2,_,zns,by simp;omega,zn (by omega) (by omega),hk⟩
    ·have h3':=ne_of_beq_false h3;rw [if_neg h3',if_pos (eq_of_beq h2)] at hk;exact ⟨by simp;omega,zn (by omega) (by omega),hk⟩
    ·have h3':=ne_of_beq_false h3;rw [if_neg h3',if_neg (ne_of_beq_false h2)] at hk;exact ⟨_,znf,by rw [zjm];omega,zn (by omega) (by omega),hk⟩
 ·rintro o rfl k;refine ⟨fun h=>absurd (dt h) (by omega),fun _=>?_⟩;show zl7 d B=_;rw [List.take_length]
theorem zm9 {d:List SNode} {B:List SBranch} (hB:HOk d B):∃k,zy.l1 d B (zy.j1 (zl7 d B)) k [] 0:=by
 have hfew:=hB.few;refine zg1 (P:=fun k (o:List Cl) v=>zy.l1 d B (zy.j1 (zl7 d B)) k o v) B.length (fun i o=>o=zl7 d (B.take i)) ?_ ?_ [] (by simp [zl7])
 ·rintro i o hi rfl;have hat:at? B (i:Int)=some B[i]:=by rw [zci];simp [hi]
  obtain ⟨b1,b2,b3⟩:=hB.ok _ (List.getElem_mem hi);have hlen:=zmn d (B.take i);rw [List.length_take] at hlen;have e:zl7 d (B.take (i+1))=zl7 d (B.take i)++clsF d B[i].1:=by rw [List.take_succ_eq_append_getElem hi,clsB_snoc]
  refine .inr ⟨_,rfl,fun k hk=>⟨fun _=>⟨_,hat,fun h0=>?_,fun h0=>?_⟩,fun h=>absurd (by omega) (df h)⟩⟩
  ·have h1:B[i].1=[]:=by simpa using h0
   rw [e,h1] at hk;simp only [clsF,List.append_nil] at hk;exact ⟨zn (by omega) (by omega),hk⟩
  ·rw [e] at hk;refine ⟨_,hat, ?_⟩;generalize B[i].1=t at *;cases t with
   | nil=>simp at h0
   | cons x rest=>
    obtain ⟨n,hn,hm,hkk⟩:=zk2 b3 b2;simp only [clsF,hn] at hk;refine ⟨x,rfl,n,hn,fun h3=>?_,fun h3=>⟨fun h2=>?_,fun h2=>?_⟩⟩
    ·have h3':=eq_of_beq h3;rw [if_pos h3'] at hk;obtain ⟨_,_,h6,h7⟩:n.1=3∧x.2.2.2=0∧0≤x.2.2.1∧x.2.2.1<(n.2.2.2.2.2.2.length:Int):=by
      rcases hkk with ⟨h,_⟩ | ⟨_,h⟩ | ⟨h,_⟩
      ·omega
      ·exact h
      ·omega
     obtain ⟨b,hb2,hb3⟩:=zqu h6 h7;rw [hb2] at hk;exact ⟨b,hb2,b,hb2,_,zi6 hb3 hb3,by simp;omega,zn (by omega) (by omega),hk⟩
    ·have h3':=ne_of_beq_false h3;simp only [Bool.and_eq_true,beq_iff_eq] at h2;rw [if_neg h3',if_pos h2.2] at hk;exact ⟨by simp;omega,zn (by omega) (by omega),hk⟩
    ·have h3':=ne_of_beq_false h3;have h2':¬ n.1=2:=by
      intro e2;rcases hkk with ⟨h,_⟩ | ⟨h,_⟩ | ⟨h,h',_⟩
      ·simp [h,e2] at h2
      ·exact h3' h
      ·omega
     rw [if_neg h3',if_neg h2'] at hk;refine zg1 (P:=fun k' (o:List Cl) v=>zy.l2 (zy.j2 (zy.l1 d B (zy.j1 (zl7 d B)) k) (i:Int)) k' o v) 256 (fun j o=>o=zl7 d (B.take i)++sing.take j) ?_ ?_ (zl7 d (B.take i)) (by simp)
     ·rintro j o hj rfl;have e:sing.take (j+1)=sing.take j++[Cl.row ((j:Int) % 256) ((j:Int) % 256)]:=by
       rw [List.take_succ_eq_append_getElem (by rw [zjm];exact hj)];simp [sing]
      have hu8:InR .u8 ((j:Int) % 256):=zjb.2 ⟨by omega,by omega⟩;refine .inr ⟨_,rfl,fun k' hk'=>⟨fun _=>⟨_,zi6 hu8 hu8,by rw [List.length_append,List.length_take];simp;omega,zn (by omega) (by omega), ?_⟩,fun h=>absurd (by omega) (df h)⟩⟩;rw [e,← List.append_assoc] at hk';exact hk'
     ·rintro o rfl k';refine ⟨fun h=>absurd (dt h) (by omega),fun _=>⟨zn (by omega) (by omega), ?_⟩⟩;rw [List.take_of_length_le (l:=sing) (by rw [zjm];exact Nat.le_refl _)];exact hk
 ·rintro o rfl k;refine ⟨fun h=>absurd (dt h) (by omega),fun _=>?_⟩;show zl7 d B=_;rw [List.take_length]
theorem classes_both {d:List SNode} {s:List SItem} (h:Sm d s):∃B,Can (fun t=>(hds d s).count t) B∧zbl d s (zl7 d B)∧zy d s (zl7 d B):=by
 obtain ⟨B,b1,b2,b3⟩:=zlw h;have hB:=h.hok b3;exact ⟨B,b3,⟨B,b1,zoj hB⟩,⟨B,b2,zm9 hB⟩⟩
def d5:List SNode:=[(2,0,0,0,0,Cl.row 5 6,([]:Str))]
theorem d5_rt:Rt d5:=leaf_rt (.inr rfl) ⟨rfl,rfl⟩
theorem zm3 {d:List SNode} (h:∀n∈d,n.2.2.2.2.2.2=[]):∀n∈d,n.2.2.2.2.2.2.length≤140737488351232:=fun n hn=>by rw [h n hn];simp
theorem d5_sm {s:List SItem} (hf:zd4 d5 s=true) (hs:s.length≤40):Sm d5 s:=⟨d5_rt,by decide,zm3 (by intro n hn;rw [d5,List.mem_singleton] at hn;subst hn;rfl),hf,by omega⟩
def d55:List SNode:=pairD 5 d5 d5
abbrev Txt (d:List SNode):Prop:=∀n∈d,n.2.2.2.2.2.2.length≤140737488351232
theorem guard15 {d:List SNode} (ht:Txt d):∃r6 r8:Bool,zds d r6∧(r6=true→d.length≤100)∧(r6=true→zgv d r8)∧(r6=true→r8=true→Rt d):=by
 obtain ⟨r6,h6,h6b⟩:=few_ex ht;cases r6
 ·exact ⟨false,false,h6,(fun h=>by cases h),(fun h=>by cases h),(fun h=>by cases h)⟩
 ·obtain ⟨r8,h8,h8b⟩:=right_ok (d:=d) (by have:=h6b rfl;omega) ht;exact ⟨true,r8,h6,h6b,fun _=>h8,fun _=>h8b⟩
theorem zkz {a b:List Cl} (ha:a.length<9223372036854775807):zc5 a b (decide (a=b)):=by
 refine ⟨fun h=>?_,fun h=>?_⟩
 ·simp at h;exact decide_eq_false fun e=>by subst e;omega
 ·have hl:a.length=b.length:=by simp at h;omega
  refine zg1 (P:=fun k (_:Unit) v=>zc5.l1 a b (decide (a=b)) _ k v) a.length (fun i _=>∀j (hj:j<i) (h1:j<a.length),a[j]=b[j]'(by omega)) ?_ ?_ () (by intro j hj;omega)
  ·intro i s hi hs;have hat:at? a (i:Int)=some a[i]:=by rw [zci];simp [hi]
   have hbt:at? b (i:Int)=some (b[i]'(by omega)):=by rw [zci];simp [show i<b.length by omega]
   by_cases he:a[i]=b[i]'(by omega)
   ·refine .inr ⟨(),fun j hj h1=>?_,fun k h=>⟨fun _=>⟨_,hat,_,hbt,fun h=>by simp [he] at h,fun _=>⟨zn (by omega) (by omega),h⟩⟩,fun h=>absurd (by omega) (df h)⟩⟩
    by_cases hji:j=i
    ·subst hji;exact he
    ·exact hs j (by omega) h1
   ·exact .inl fun k=>⟨fun _=>⟨_,hat,_,hbt,fun _=>decide_eq_false fun e=>he (by subst e;rfl),fun h=>by simp at h;exact absurd h he⟩,fun h=>absurd (by omega) (df h)⟩
  ·intro s hs k;refine ⟨fun h=>absurd (dt h) (by omega),fun _=>?_⟩;show decide (a=b)=true;exact decide_eq_true (List.ext_getElem hl fun j h1 h2=>hs j h1 h1)
theorem form_low1 {d:List SNode} {x:SItem} (h:zee d x=true) (hb:zlf x=false):zee d (zlg x)=true:=by
 unfold zlg;split
 ·rename_i h5
  unfold zee at h ⊢;rw [if_pos h5] at h;rw [if_pos (show (x.1,x.2.1,x.2.2.1-1,x.2.2.2).1=5 from h5)];simp only [zlf,h5] at hb;simp at hb;simp only [Bool.and_eq_true,decide_eq_true_eq,beq_iff_eq] at h ⊢;omega
 ·exact h
theorem form_lowF {d:List SNode} {s:List SItem} (h:zd4 d s=true):zd4 d (zet s).1=true:=by
 unfold zet;split
 ·rfl
 ·rename_i hb
  have hb:s.any zlf=false:=by simpa using hb
  unfold zd4 at *;rw [List.all_eq_true] at *;intro y hy;obtain ⟨x,hx,rfl⟩:=List.mem_map.1 hy;rw [List.any_eq_false] at hb;exact form_low1 (h x hx) (by simpa using hb x hx)
theorem form_read {d:List SNode} (hd:ROk d) {t:List SItem} (hf:zd4 d t=true) (hr:rdy d t=true) {c:Int} (hc:InR .u8 c):zd4 d (zbn d t c).1=true:=by
 have hc':=zjb.1 hc;cases t with
 | nil=>rfl
 | cons x rest=>
  obtain ⟨n,hn,hm,hk⟩:=zk2 hf hr;have hlow:=form_lowF (zeb hf).2;have five:∀v:Int,0≤v→v≤65535→zee d (5,0,v,0)=true:=fun v h0 h1=>by
   unfold zee;simp;omega
  unfold zbn;simp only [hn];split
  ·rfl
  ·split
   ·rename_i h3
    split
    ·split
     ·rename_i hlt
      refine zfw ?_ hlow;obtain ⟨h4,h6⟩:n.1=3∧0≤x.2.2.1:=by
       rcases hk with ⟨h,_⟩ | ⟨_,h,_,h',_⟩ | ⟨h,_⟩
       ·omega
       ·exact ⟨h,h'⟩
       ·omega
      unfold zee;simp [hn,h4];omega
     ·exact hlow
    ·rfl
   ·split
    ·rename_i h3 h4
     obtain ⟨h9,h6,h7⟩:n.1=9∧0≤x.2.2.1∧x.2.2.1≤255:=by
      rcases hk with ⟨h,_⟩ | ⟨h,_⟩ | ⟨_,h⟩
      ·omega
      ·omega
      ·exact h
     obtain ⟨p,q⟩:=hd.one _ n hn (by omega);exact zfw (zik (zfe hn p q)) (zfw (five _ (by omega) (by omega)) hlow)
    ·split
     ·rename_i h8
      obtain ⟨p,q⟩:=hd.one _ n hn (by omega);exact zfw (zik (zfe hn p q)) (zfw (five _ (by omega) (by omega)) hlow)
     ·split
      ·rename_i h9
       refine zfw ?_ hlow;unfold zee;simp [hn,h9];omega
      ·split
       ·exact hlow
       ·rfl
theorem step_ok {d:List SNode} (hd:ROk d) {s:List SItem} (hf:zd4 d s=true) {c:Int} (hc:InR .u8 c):∀u∈zei d c s,zd4 d u=true∧u.length≤s.length+d.length+1:=by
 intro u hu;obtain ⟨t,h1,h2⟩:=List.mem_filterMap.1 hu;obtain ⟨L,⟨k,hk⟩,hp⟩:=hds_lv hd s hf;obtain ⟨h3,h4⟩:=lv_vs hd (n0:=s.length) k s L hk (Vs.start hf (Nat.le_refl _)) t (hp.mem_iff.2 h1);split at h2
 ·cases h2;have:=h3.len;have:=zk0 d t c;exact ⟨form_read hd h3.form h4 hc,by omega⟩
 ·cases h2
theorem ends_ok {d:List SNode} (hd:ROk d):∀(w:List Int) (s:List SItem),(∀c∈w,InR .u8 c)→zd4 d s=true→∀u∈zdz d w s,zd4 d u=true∧u.length≤s.length+w.length*(d.length+1)
 | [],s,_,hf,u,hu=>by
  rw [zdz,List.mem_singleton] at hu;subst hu;exact ⟨hf,by simp⟩
 | c::w,s,hw,hf,u,hu=>by
  obtain ⟨t,h1,h2⟩:=List.mem_flatMap.1 hu;obtain ⟨h3,h4⟩:=step_ok hd hf (hw c (by simp)) t h1;obtain ⟨h5,h6⟩:=ends_ok hd w t (fun e he=>hw e (by simp [he])) h3 u h2;refine ⟨h5, ?_⟩;rw [List.length_cons,Nat.succ_mul];omega
theorem hds_mem {d:List SNode} (hd:ROk d) (r:List SItem) (t:List SItem):∀s,t∈hds d (s++r)↔(∃t',t'∈hds d s∧t'≠[]∧t=t'++r)∨([]∈hds d s∧t∈hds d r):=by
 intro s;have h:=hds_app hd (fun u=>if u=t then 1 else 0) r s;have cnt1:∀L:List (List SItem),zep (fun u=>if u=t then 1 else 0) L≠0↔t∈L:=fun L=>by
  induction L with
  | nil=>simp [zep]
  | cons u L ih=>
   have e:zep (fun u=>if u=t then 1 else 0) (u::L)=(if u=t then 1 else 0)+zep (fun u=>if u=t then 1 else 0) L:=by simp [zep]
   rw [e,List.mem_cons]
   by_cases hu:u=t
   ·subst hu;simp
   ·rw [if_neg hu,Nat.zero_add,ih];constructor
    ·exact .inr
    ·rintro (e | e)
     ·exact absurd e.symm hu
     ·exact e
 have cnt2:∀(G:List SItem→Nat) (L:List (List SItem)),zep G L≠0↔∃u∈L,G u≠0:=fun G L=>by
  induction L with
  | nil=>simp [zep]
  | cons u L ih=>
   have e:zep G (u::L)=G u+zep G L:=by simp [zep]
   rw [e];constructor
   ·intro h0
    by_cases hu:G u=0
    ·obtain ⟨v,h1,h2⟩:=ih.1 (by omega);exact ⟨v,by simp [h1],h2⟩
    ·exact ⟨u,by simp,hu⟩
   ·rintro ⟨v,h1,h2⟩;rcases List.mem_cons.1 h1 with rfl | h1
    ·omega
    ·have:=ih.2 ⟨v,h1,h2⟩;omega
 rw [← cnt1,h,cnt2];constructor
 ·rintro ⟨u,h1,h2⟩
  by_cases hu:u=[]
  ·subst hu;simp only [if_true] at h2;exact .inr ⟨h1,(cnt1 _).1 h2⟩
  ·simp only [if_neg hu] at h2
   by_cases he:u++r=t
   ·exact .inl ⟨u,h1,hu,he.symm⟩
   ·rw [if_neg he] at h2;exact absurd rfl h2
 ·rintro (⟨u,h1,hu,rfl⟩ | ⟨h1,h2⟩)
  ·exact ⟨u,h1,by simp only [if_neg hu];simp⟩
  ·exact ⟨[],h1,by simp only [if_true];exact (cnt1 _).2 h2⟩
theorem zd8 {d:List SNode} {c:Int} {s u:List SItem}:u∈zei d c s↔∃t∈hds d s,(zbn d t c).2=true∧(zbn d t c).1=u:=by
 unfold zei;rw [List.mem_filterMap];constructor
 ·rintro ⟨t,h1,h2⟩;split at h2
  ·rename_i h3;cases h2;exact ⟨t,h1,h3,rfl⟩
  ·cases h2
 ·rintro ⟨t,h1,h2,rfl⟩;exact ⟨t,h1,by rw [if_pos h2]⟩
theorem step_app {d:List SNode} (hd:ROk d) {c:Int} {s r u:List SItem} (h:u∈zei d c (s++r)):(∃u',u'∈zei d c s∧(zet r).2=true∧u=u'++(zet r).1)∨([]∈hds d s∧u∈zei d c r):=by
 obtain ⟨t,h1,h2,rfl⟩:=zd8.1 h;rcases (hds_mem hd r t s).1 h1 with ⟨t',k1,k2,rfl⟩ | ⟨k1,k2⟩
 ·rw [readF_app k2] at h2 ⊢
  by_cases hc:(zbn d t' c).2=true∧(zet r).2=true
  ·rw [if_pos hc];exact .inl ⟨_,zd8.2 ⟨t',k1,hc.1,rfl⟩,hc.2,rfl⟩
  ·rw [if_neg hc] at h2;cases h2
 ·exact .inr ⟨k1,zd8.2 ⟨t,k2,h2,rfl⟩⟩
def Cov (n:Nat) (p:List SItem→Prop):Prop:=∃K:List (List SItem),K.length≤n∧∀u,p u→u∈K
theorem Cov.weak {m n:Nat} {p q:List SItem→Prop} (h:Cov m p) (hm:m≤n) (hq:∀u,q u→p u):Cov n q:=
 let ⟨K,h1,h2⟩:=h
 ⟨K,Nat.le_trans h1 hm,fun u hu=>h2 u (hq u hu)⟩
theorem Cov.none {p:List SItem→Prop} (h:∀u,¬ p u) (n:Nat):Cov n p:=⟨[],Nat.zero_le _,fun u hu=>(h u hu).elim⟩
theorem Cov.one {p:List SItem→Prop} (x:List SItem) (h:∀u,p u→u=x):Cov 1 p:=⟨[x],by simp,fun u hu=>by rw [h u hu];simp⟩
theorem Cov.or {m n:Nat} {p q r:List SItem→Prop} (h:Cov m p) (k:Cov n q) (e:∀u,r u→p u∨q u):Cov (m+n) r:=
 let ⟨K,h1,h2⟩:=h
 let ⟨J,k1,k2⟩:=k
 ⟨K++J,by rw [List.length_append];omega,fun u hu=>by rw [List.mem_append];exact (e u hu).imp (h2 u) (k2 u)⟩
theorem Cov.map {m:Nat} {p r:List SItem→Prop} (f:List SItem→List SItem) (h:Cov m p) (e:∀u,r u→∃t,p t∧u=f t):Cov m r:=
 let ⟨K,h1,h2⟩:=h
 ⟨K.map f,by simpa using h1,fun u hu=>by obtain ⟨t,a,rfl⟩:=e u hu;exact List.mem_map.2 ⟨t,h2 t a,rfl⟩⟩
def sumN (f:Nat→Nat):Nat→Nat
 | 0=>0
 | k+1=>sumN f k+f k
theorem Cov.sum {f:Nat→Nat} {p:Nat→List SItem→Prop}:∀(k:Nat),(∀j,j<k→Cov (f j) (p j))→Cov (sumN f k) (fun u=>∃j,j<k∧p j u)
 | 0,_=>Cov.none (fun u ⟨j,h,_⟩=>by omega) _
 | k+1,h=>(Cov.sum k fun j hj=>h j (by omega)).or (h k (by omega)) fun u ⟨j,hj,hp⟩=>by
  by_cases e:j=k
  ·subst e;exact .inr hp
  ·exact .inl ⟨j,by omega,hp⟩
def pasR (f:Nat→Nat):Nat→Nat
 | 0=>1
 | k+1=>f (k+1)+pasR f k
def pas:Nat→Nat→Nat
 | 0=>fun _=>1
 | m+1=>pasR (pas m)
theorem zjx (m:Nat):pas m 0=1:=by cases m <;> rfl
theorem zlo:∀m k:Nat,1≤pas m k
 | 0,_=>Nat.le_refl _
 | m+1,0=>by rw [zjx];exact Nat.le_refl _
 | m+1,k+1=>by
  have:=zlo m (k+1);show 1≤pas m (k+1)+pas (m+1) k;omega
theorem pas_up (m k:Nat):pas m k≤pas (m+1) k:=by
 cases k with
 | zero=>rw [zjx,zjx];exact Nat.le_refl _
 | succ k=>exact Nat.le_add_right _ _
theorem pas_mono {m m':Nat} (h:m≤m') (k:Nat):pas m k≤pas m' k:=by
 induction h with
 | refl=>exact Nat.le_refl _
 | step _ ih=>exact Nat.le_trans ih (pas_up _ k)
theorem pas_more (m k:Nat):pas m k≤pas m (k+1):=by
 cases m with
 | zero=>exact Nat.le_refl _
 | succ m=>exact Nat.le_add_left _ _
theorem pas_long (m:Nat) {k k':Nat} (h:k≤k'):pas m k≤pas m k':=by
 induction h with
 | refl=>exact Nat.le_refl _
 | step _ ih=>exact Nat.le_trans ih (pas_more m _)
theorem zp5 (k:Nat):∀m,sumN (fun i=>pas i k) (m+1)=pas m (k+1)
 | 0=>rfl
 | m+1=>by
  show sumN (fun i=>pas i k) (m+1)+pas (m+1) k=_;rw [zp5 k m];rfl
theorem sumN_two {g:Nat→Nat} (h:∀i j,i≤j→g i≤g j) (x:Nat):∀y,sumN g x+sumN g y≤sumN g (x+y)
 | 0=>Nat.le_refl _
 | y+1=>by
  have:=sumN_two h x y;have:=h y (x+y) (by omega);show sumN g x+(sumN g y+g y)≤sumN g (x+y)+g (x+y);omega
theorem pas_two (a b k:Nat):pas a (k+1)+pas b (k+1)≤pas (a+b+1) (k+1):=by
 have:=sumN_two (g:=fun i=>pas i k) (fun i j h=>pas_mono h k) (a+1) (b+1);rw [zp5,zp5,show a+1+(b+1)=(a+b+1)+1 by omega,zp5] at this;exact this
theorem zp6 (a k:Nat):∀m,m≤k→sumN (fun t=>pas a (k-t)) m+pas (a+1) (k-m)≤pas (a+1) k
 | 0,_=>by rw [Nat.sub_zero];show 0+_≤_;omega
 | m+1,h=>by
  have ih:=zp6 a k m (by omega);have e:pas (a+1) (k-m)=pas a (k-m)+pas (a+1) (k-(m+1)):=by
   rw [show k-m=(k-(m+1))+1 by omega];rfl
  show sumN (fun t=>pas a (k-t)) m+pas a (k-m)+_≤_;omega
def fac:Nat→Nat
 | 0=>1
 | n+1=>(n+1)*fac n
theorem fac_pos:∀n,1≤fac n
 | 0=>Nat.le_refl _
 | n+1=>Nat.le_trans (fac_pos n) (Nat.le_mul_of_pos_left _ (by omega))
theorem pas_fac:∀m k:Nat,pas m k*(fac m*fac k)=fac (m+k)
 | 0,k=>by simp [pas,fac]
 | m+1,0=>by rw [zjx];simp [fac]
 | m+1,k+1=>by
  have h1:=pas_fac m (k+1);have h2:=pas_fac (m+1) k;have e1:pas m (k+1)*(fac (m+1)*fac (k+1))=(m+1)*fac (m+(k+1)):=by
   rw [← h1];show pas m (k+1)*((m+1)*fac m*fac (k+1))=_;rw [Nat.mul_assoc (m+1),Nat.mul_left_comm]
  have e2:pas (m+1) k*(fac (m+1)*fac (k+1))=(k+1)*fac (m+1+k):=by
   rw [← h2];show pas (m+1) k*(fac (m+1)*((k+1)*fac k))=_;rw [Nat.mul_left_comm (fac (m+1)),Nat.mul_left_comm]
  show (pas m (k+1)+pas (m+1) k)*_=fac (m+1+(k+1));rw [Nat.add_mul,e1,e2,show m+1+(k+1)=(m+k+1)+1 by omega,show m+(k+1)=m+k+1 by omega,show m+1+k=m+k+1 by omega];show _=(m+k+1+1)*fac (m+k+1);rw [← Nat.add_mul]
  congr 1
  omega
theorem pas_le {m k N:Nat} (h:fac (m+k)≤N*(fac m*fac k)):pas m k≤N:=by
 rw [← pas_fac] at h;exact Nat.le_of_mul_le_mul_right h (Nat.mul_pos (fac_pos m) (fac_pos k))
def Rch (d:List SNode) (s:List SItem) (w:List Int) (u:List SItem):Prop:=∃a v,a++v=w∧v≠[]∧u∈zdz d v s
theorem Rch.none {d:List SNode} {s u:List SItem}:¬ Rch d s [] u:=fun ⟨a,v,h,hv,_⟩=>hv (List.append_eq_nil_iff.1 h).2
theorem zl2 (t:List SItem):∀L:List (List SItem),zep (fun u=>if u=t then 1 else 0) L≠0↔t∈L
 | []=>by simp [zep]
 | u::L=>by
  have ih:=zl2 t L;have e:zep (fun u=>if u=t then 1 else 0) (u::L)=(if u=t then 1 else 0)+zep (fun u=>if u=t then 1 else 0) L:=by simp [zep]
  rw [e,List.mem_cons]
  by_cases hu:u=t
  ·subst hu;simp
  ·rw [if_neg hu,Nat.zero_add,ih];constructor
   ·exact .inr
   ·rintro (e | e)
    ·exact absurd e.symm hu
    ·exact e
theorem mem_sum {A B:List (List SItem)} (h:∀F,zep F A=zep F B) (t:List SItem):t∈A↔t∈B:=by rw [← zl2,← zl2 t B,h]
theorem mem_sum2 {A B C:List (List SItem)} (h:∀F,zep F A=zep F B+zep F C) (t:List SItem):t∈A↔t∈B∨t∈C:=by rw [← zl2,← zl2 t B,← zl2 t C,h];omega
theorem ends_or {d:List SNode} {s s1 s2 u:List SItem} {v:List Int} (h:∀t,t≠[]→t∈hds d s→t∈hds d s1∨t∈hds d s2) (hv:v≠[]) (hu:u∈zdz d v s):u∈zdz d v s1∨u∈zdz d v s2:=by
 cases v with
 | nil=>exact absurd rfl hv
 | cons c w=>
  obtain ⟨x,h1,h2⟩:=List.mem_flatMap.1 hu;obtain ⟨t,k1,k2,k3⟩:=zd8.1 h1;have hne:t≠[]:=fun e=>by subst e;simp [zbn] at k2
  rcases h t hne k1 with k | k
  ·exact .inl (List.mem_flatMap.2 ⟨x,zd8.2 ⟨t,k,k2,k3⟩,h2⟩)
  ·exact .inr (List.mem_flatMap.2 ⟨x,zd8.2 ⟨t,k,k2,k3⟩,h2⟩)
theorem zh5 {d:List SNode} {s s1 u:List SItem} {v:List Int} (h:∀t,t≠[]→t∈hds d s→t∈hds d s1) (hv:v≠[]) (hu:u∈zdz d v s):u∈zdz d v s1:=
 (ends_or (s1:=s1) (s2:=s1) (fun t h1 h2=>.inl (h t h1 h2)) hv hu).elim id id
theorem zlb {d:List SNode} (hd:ROk d):∀(w:List Int) (s r u:List SItem),u∈zdz d w (s++r)→(∃u' r',u'∈zdz d w s∧lows w.length r=some r'∧u=u'++r')∨∃a b r',w=a++b∧b≠[]∧(a=[]→[]∈hds d s)∧lows a.length r=some r'∧u∈zdz d b r'
 | [],s,r,u,h=>by
  rw [zdz,List.mem_singleton] at h;exact .inl ⟨s,r,by rw [zdz];exact List.mem_singleton.2 rfl,rfl,h⟩
 | c::w,s,r,u,h=>by
  obtain ⟨t,h1,h2⟩:=List.mem_flatMap.1 h;rcases step_app hd h1 with ⟨t',k1,k2,rfl⟩ | ⟨k1,k2⟩
  ·have el:∀p,lows (p+1) r=lows p (zet r).1:=fun p=>by
    show (if (zet r).2=true then lows p (zet r).1 else none)=_;rw [if_pos k2]
   rcases zlb hd w t' (zet r).1 u h2 with ⟨u',r',j1,j2,j3⟩ | ⟨a,b,r',j1,j2,_,j3,j4⟩
   ·exact .inl ⟨u',r',List.mem_flatMap.2 ⟨t',k1,j1⟩,by rw [List.length_cons,el];exact j2,j3⟩
   ·exact .inr ⟨c::a,b,r',by rw [j1];rfl,j2,(fun h=>by cases h),by rw [List.length_cons,el];exact j3,j4⟩
  ·exact .inr ⟨[],c::w,r,rfl,by simp,fun _=>k1,rfl,List.mem_flatMap.2 ⟨t,k2,h2⟩⟩
theorem zox {x:SItem} (h:x.1≠5):NoEnd [x]:=fun y hy=>by rw [List.mem_singleton.1 hy];exact h
theorem pm_ne {d:List SNode} (hd:ROk d) (i:Int):[] ∉ pm d i:=fun h=>pmI_ne hd (1,i,0,0) [] (show []∈pmI d (1,i,0,0) from h) rfl
theorem no_nil {d:List SNode} (hd:ROk d) {i:Int} (h:nw d i=0):[] ∉ hds d [(1,i,0,0)]:=by
 rw [zo1,h];simpa using pm_ne hd i
theorem ends_stop {d:List SNode} {m:Int} {b:List Int} {u:List SItem} (hb:b≠[]):u ∉ zdz d b [(5,0,m,0)]:=by
 cases b with
 | nil=>exact absurd rfl hb
 | cons c w=>
  intro h;obtain ⟨t,h1,h2⟩:=List.mem_flatMap.1 h;obtain ⟨t,k1,k2,k3⟩:=zd8.1 h1;have e1:pmI d (5,0,m,0)=[]:=by simp [pmI]
  have e3:hds d [(5,0,m,0)]=(pmI d (5,0,m,0)).map (·++[])++(List.replicate (nwI d (5,0,m,0)) [[]]).flatten:=rfl;rw [e3,e1] at k1;have:t=[]:=by
   simp at k1;exact k1.2
  subst this;simp [zbn] at k2
section
variable {d : List SNode} (hd : ROk d) {i : Int} {n : SNode} (hn : at? d i = some n) {w : List Int} {u : List SItem}
include hd hn
theorem sum_seq (h:n.1=4) (F:List SItem→Nat):zep F (hds d [(1,i,0,0)])=zep F (hds d ([(1,n.2.1,0,0)]++[(1,n.2.2.1,0,0)])):=by
 have e:=zop hd hn;rw [if_neg (by omega),if_neg (by omega),if_pos h] at e;have e1:pm d i=(pm d n.2.1).map (·++[(1,n.2.2.1,0,0)])++(List.replicate (nw d n.2.1) (pm d n.2.2.1)).flatten:=by
  have:pm d i=(PM d d.length i).1:=rfl;rw [this,e]
 have e2:nw d i=nw d n.2.1*nw d n.2.2.1:=by
  have:nw d i=(PM d d.length i).2:=rfl;rw [this,e]
 rw [zhw,List.singleton_append,zmx,zhw,e1,e2,zg4,zg3,zjj,Nat.mul_add,Nat.mul_assoc,Nat.add_assoc]
theorem sum_or (h:n.1=5) (F:List SItem→Nat):zep F (hds d [(1,i,0,0)])=zep F (hds d [(1,n.2.1,0,0)])+zep F (hds d [(1,n.2.2.1,0,0)]):=by
 have e:=zop hd hn;rw [if_neg (by omega),if_neg (by omega),if_neg (by omega),if_pos h] at e;have e1:pm d i=pm d n.2.1++pm d n.2.2.1:=by
  have:pm d i=(PM d d.length i).1:=rfl;rw [this,e]
 have e2:nw d i=nw d n.2.1+nw d n.2.2.1:=by
  have:nw d i=(PM d d.length i).2:=rfl;rw [this,e]
 rw [zhw,zhw,zhw,e1,e2,zg4,Nat.add_mul];omega
theorem sum_star (h:n.1=6) (F:List SItem→Nat):zep F (hds d [(1,i,0,0)])=zep F (hds d [])+zep F (hds d ([(1,n.2.1,0,0)]++[(1,i,0,0)])):=by
 have e:=zop hd hn;rw [if_neg (by omega),if_neg (by omega),if_neg (by omega),if_neg (by omega),if_pos h] at e;have e1:pm d i=(pm d n.2.1).map (·++[(1,i,0,0)]):=by
  have:pm d i=(PM d d.length i).1:=rfl;rw [this,e]
 have e2:nw d i=1:=by
  have:nw d i=(PM d d.length i).2:=rfl;rw [this,e]
 have z:=zp9 hd hn (.inl h);rw [zhw,List.singleton_append,zmx,e1,e2,z,zg3];simp [hds,zep];omega
def zkj (i:Int) (n:SNode) (t:Nat):SItem:=(2,i,max (n.2.2.2.1-t) 0,n.2.2.2.2.1-t)
omit hd hn in
theorem itemT_next (i:Int) (n:SNode) (t:Nat):((2,i,max (max (n.2.2.2.1-(t:Int)) 0-1) 0,n.2.2.2.2.1-(t:Int)-1):SItem)=zkj i n (t+1):=by
 unfold zkj
 simp only [Prod.mk.injEq,true_and]
 omega
theorem sum_item (h:n.1=7) (lo hi:Int) (F:List SItem→Nat):zep F (hds d [(2,i,lo,hi)])=(if lo=0 then F [] else 0)+if 0<hi then zep F (hds d ([(1,n.2.1,0,0)]++[(2,i,max (lo-1) 0,hi-1)])) else 0:=by
 have z:=zp9 hd hn (.inr h);have e1:pmI d (2,i,lo,hi)=if 0<hi then (pm d n.2.1).map (·++[(2,i,max (lo-1) 0,hi-1)]) else []:=by
  unfold pmI;simp [hn]
 have e2:nwI d (2,i,lo,hi)=if lo=0 then 1 else 0:=by simp [nwI]
 simp only [List.singleton_append];rw [zmx,z];have e3:hds d [(2,i,lo,hi)]=(pmI d (2,i,lo,hi)).map (·++[])++(List.replicate (nwI d (2,i,lo,hi)) [[]]).flatten:=rfl;rw [e3,zg4,zjj,e1,e2,zg3]
 by_cases h0:lo=0
 ·by_cases h1:0<hi
  ·simp only [if_pos h0,if_pos h1,List.append_nil];rw [zg3];simp [zep];omega
  ·simp only [if_pos h0,if_neg h1];simp [zep]
 ·by_cases h1:0<hi
  ·simp only [if_neg h0,if_pos h1,List.append_nil];rw [zg3];simp [zep]
  ·simp only [if_neg h0,if_neg h1];simp [zep]
theorem sum_rep (h:n.1=7) (F:List SItem→Nat):zep F (hds d [(1,i,0,0)])=zep F (hds d [(2,i,n.2.2.2.1,n.2.2.2.2.1)]):=by
 have e:=zop hd hn;rw [if_neg (by omega),if_neg (by omega),if_neg (by omega),if_neg (by omega),if_neg (by omega),if_pos h] at e;have e1:pm d i=if 0<n.2.2.2.2.1 then (pm d n.2.1).map (·++[(2,i,max (n.2.2.2.1-1) 0,n.2.2.2.2.1-1)]) else []:=by
  have:pm d i=(PM d d.length i).1:=rfl;rw [this,e]
 have e2:nw d i=if n.2.2.2.1=0 then 1 else 0:=by
  have:nw d i=(PM d d.length i).2:=rfl;rw [this,e]
 have e3:pmI d (2,i,n.2.2.2.1,n.2.2.2.2.1)=pm d i:=by rw [e1];unfold pmI;simp [hn]
 have e4:nwI d (2,i,n.2.2.2.1,n.2.2.2.2.1)=nw d i:=by rw [e2];simp [nwI]
 have e5:hds d [(2,i,n.2.2.2.1,n.2.2.2.2.1)]=(pmI d (2,i,n.2.2.2.1,n.2.2.2.2.1)).map (·++[])++(List.replicate (nwI d (2,i,n.2.2.2.1,n.2.2.2.2.1)) [[]]).flatten:=rfl;rw [e5,e3,e4];rfl
theorem rch_seq (h:n.1=4) (hr:Rch d [(1,i,0,0)] w u):(∃t,Rch d [(1,n.2.1,0,0)] w t∧u=t++[(1,n.2.2.1,0,0)])∨Rch d [(1,n.2.2.1,0,0)] w u:=by
 obtain ⟨a,v,e,hv,hu⟩:=hr;have hu':u∈zdz d v ([(1,n.2.1,0,0)]++[(1,n.2.2.1,0,0)]):=zh5 (fun t _ ht=>(mem_sum (sum_seq hd hn h) t).1 ht) hv hu;rcases zlb hd _ _ _ _ hu' with ⟨u',r',h1,h2,h3⟩ | ⟨x,b,r',h1,h2,_,h3,h4⟩
 ·rw [zfu (zox (by simp))] at h2;cases h2;exact .inl ⟨u',⟨a,v,e,hv,h1⟩,h3⟩
 ·rw [zfu (zox (by simp))] at h3;cases h3;exact .inr ⟨a++x,b,by rw [List.append_assoc,← h1,e],h2,h4⟩
theorem rch_or (h:n.1=5) (hr:Rch d [(1,i,0,0)] w u):Rch d [(1,n.2.1,0,0)] w u∨Rch d [(1,n.2.2.1,0,0)] w u:=by
 obtain ⟨a,v,e,hv,hu⟩:=hr;exact (ends_or (fun t _ ht=>(mem_sum2 (sum_or hd hn h) t).1 ht) hv hu).imp (fun k=>⟨a,v,e,hv,k⟩) fun k=>⟨a,v,e,hv,k⟩
theorem rch_star (h:n.1=6) (hr:Rch d [(1,i,0,0)] w u):∃t,Rch d [(1,n.2.1,0,0)] w t∧u=t++[(1,i,0,0)]:=by
 obtain ⟨a,v,e,hv,hu⟩:=hr;obtain ⟨k,hk⟩:∃k,v.length≤k:=⟨_,Nat.le_refl _⟩
 induction k generalizing a v with
 | zero=>exact absurd (List.length_eq_zero_iff.1 (by omega)) hv
 | succ k ih=>
  have hu':u∈zdz d v ([(1,n.2.1,0,0)]++[(1,i,0,0)]):=zh5 (fun t ht h1=>((mem_sum2 (sum_star hd hn h) t).1 h1).resolve_left fun h2=>ht (by simpa [hds] using h2)) hv hu;rcases zlb hd _ _ _ _ hu' with ⟨u',r',h1,h2,h3⟩ | ⟨x,b,r',h1,h2,h5,h3,h4⟩
  ·rw [zfu (zox (by simp))] at h2;cases h2;exact ⟨u',⟨a,v,e,hv,h1⟩,h3⟩
  ·rw [zfu (zox (by simp))] at h3;cases h3;have hx:x≠[]:=fun ex=>no_nil hd (zp9 hd hn (.inl h)) (h5 ex);have:=List.length_pos_iff.2 hx;have:=congrArg List.length h1;rw [List.length_append] at this;exact ih (a++x) b (by rw [List.append_assoc,← h1,e]) h2 h4 (by omega)
theorem ends_item (h:n.1=7):∀(k:Nat) (v:List Int) (t:Nat) (u:List SItem),v.length≤k→v≠[]→u∈zdz d v [zkj i n t]→∃(t':Nat) (x b:List Int) (u':List SItem),v=x++b∧b≠[]∧t'≤x.length∧(t:Int)+t' < n.2.2.2.2.1∧u'∈zdz d b [(1,n.2.1,0,0)]∧u=u'++[zkj i n (t+t'+1)]
 | 0,v,t,u,hk,hv,hu=>absurd (List.length_eq_zero_iff.1 (by omega)) hv
 | k+1,v,t,u,hk,hv,hu=>by
  have hs:=sum_item hd hn h (max (n.2.2.2.1-(t:Int)) 0) (n.2.2.2.2.1-(t:Int))
  by_cases hi:0<n.2.2.2.2.1-(t:Int)
  ·have hu':u∈zdz d v ([(1,n.2.1,0,0)]++[zkj i n (t+1)]):=by
    refine zh5 (fun z hz h1=>?_) hv hu;rw [← zl2] at h1 ⊢;have e1:hds d [zkj i n t]=hds d [(2,i,max (n.2.2.2.1-(t:Int)) 0,n.2.2.2.2.1-(t:Int))]:=rfl;rw [e1,hs,if_pos hi,itemT_next] at h1;have e0:(if ([]:List SItem)=z then 1 else 0)=0:=if_neg fun e=>hz e.symm;rw [e0] at h1;have e00:(if max (n.2.2.2.1-(t:Int)) 0=0 then 0 else 0)=0:=by split <;> rfl
    rw [e00,Nat.zero_add] at h1;exact h1
   rcases zlb hd _ _ _ _ hu' with ⟨u',r',h1,h2,h3⟩ | ⟨x,b,r',h1,h2,h5,h3,h4⟩
   ·rw [zfu (zox (by simp [zkj]))] at h2;cases h2;exact ⟨0,[],v,u',rfl,hv,Nat.le_refl _,by omega,h1,h3⟩
   ·rw [zfu (zox (by simp [zkj]))] at h3;cases h3;have hx:x≠[]:=fun ex=>no_nil hd (zp9 hd hn (.inr h)) (h5 ex);have hx0:=List.length_pos_iff.2 hx;have hl:=congrArg List.length h1;rw [List.length_append] at hl;obtain ⟨t',y,c,u',j1,j2,j3,j4,j5,j6⟩:=ends_item h k b (t+1) u (by omega) h2 h4;refine ⟨t'+1,x++y,c,u',by rw [h1,j1,List.append_assoc],j2,by rw [List.length_append];omega,by omega,j5, ?_⟩;rw [j6,show t+1+t'+1=t+(t'+1)+1 by omega]
  ·exfalso;have:u∈zdz d v []:=by
    refine zh5 (fun z hz h1=>?_) hv hu;rw [← zl2] at h1;have e1:hds d [zkj i n t]=hds d [(2,i,max (n.2.2.2.1-(t:Int)) 0,n.2.2.2.2.1-(t:Int))]:=rfl;rw [e1,hs,if_neg hi] at h1;have e0:(if ([]:List SItem)=z then 1 else 0)=0:=if_neg fun e=>hz e.symm;rw [e0] at h1;have e00:(if max (n.2.2.2.1-(t:Int)) 0=0 then 0 else 0)=0:=by split <;> rfl
    rw [e00] at h1;exact absurd rfl h1
   cases v with
   | nil=>exact hv rfl
   | cons c v=>
    obtain ⟨x,h1,h2⟩:=List.mem_flatMap.1 this;obtain ⟨z,k1,k2,k3⟩:=zd8.1 h1;have:z=[]:=by simpa [hds] using k1
    subst this;simp [zbn] at k2
theorem rch_rep (h:n.1=7) (hr:Rch d [(1,i,0,0)] w u):∃t:Nat,t<w.length∧(t:Int)<n.2.2.2.2.1∧∃u',Rch d [(1,n.2.1,0,0)] (w.drop t) u'∧u=u'++[zkj i n (t+1)]:=by
 obtain ⟨a,v,e,hv,hu⟩:=hr;have hb:=hd.rep _ n hn h;have hu':u∈zdz d v [zkj i n 0]:=by
  refine zh5 (fun t _ ht=>?_) hv hu;have h1:=(mem_sum (sum_rep hd hn h) t).1 ht;have:zkj i n 0=(2,i,n.2.2.2.1,n.2.2.2.2.1):=by
   unfold zkj;simp only [Prod.mk.injEq,true_and];omega
  rw [this];exact h1
 obtain ⟨t,x,b,u',h1,h2,h3,h4,h5,h6⟩:=ends_item hd hn h v.length v 0 u (Nat.le_refl _) hv hu';have hb0:=List.length_pos_iff.2 h2;have e1:w=(a++x)++b:=by rw [List.append_assoc,← h1,e]
 have hl:w.length=(a++x).length+b.length:=by rw [e1,List.length_append]
 have hal:x.length≤(a++x).length:=by rw [List.length_append];omega
 refine ⟨t,by omega,by omega,u',⟨(a++x).drop t,b, ?_,h2,h5⟩,by rw [h6,Nat.zero_add]⟩;rw [e1];exact (List.drop_append_of_le_length (l₁:=a++x) (by omega)).symm
omit hn in
theorem ends_held {A c:Int} (hc:0≤c) (hw:w≠[]) (hu:u∈zdz d w [(1,A,0,0),(5,0,c,0)]):∃u',u'∈zdz d w [(1,A,0,0)]∧u=u'++[(5,0,c-w.length,0)]:=by
 have e:([(1,A,0,0),(5,0,c,0)]:List SItem)=[(1,A,0,0)]++[(5,0,c,0)]:=rfl
 rw [e] at hu
 rcases zlb hd _ _ _ _ hu with ⟨u',r',h1,h2,h3⟩ | ⟨x,b,r',h1,h2,h5,h3,h4⟩
 ·rw [lows_end c hc] at h2
  split at h2
  ·cases h2
   exact ⟨u',h1,h3⟩
  ·cases h2
 ·rw [lows_end c hc] at h3
  split at h3
  ·cases h3
   exact absurd h4 (ends_stop h2)
  ·cases h3
omit hd hn in
theorem zmu {a:List Int} {c:Int} {v:List Int} (e:a++c::v=w):w.drop (a.length+1)=v∧w.getD a.length 0=c∧w.length=a.length+1+v.length:=by
 subst e
 refine ⟨?_,by simp,by simp;omega⟩
 rw [show a.length+1=(a++[c]).length by simp,show a++c::v=(a++[c])++v by simp,List.drop_left]
theorem rch_frame (h:n.1=8) (hw:∀c∈w,0≤c) (hr:Rch d [(1,i,0,0)] w u):u=[(1,n.2.1,0,0),(5,0,w.getD (w.length-1) 0,0)]∨∃p:Nat,p<w.length-1∧∃u',Rch d [(1,n.2.1,0,0)] (w.drop (p+1)) u'∧u=u'++[(5,0,w.getD p 0-((w.length-(p+1):Nat):Int),0)]:=by
 obtain ⟨a,v,e,hv,hu⟩:=hr;cases v with
 | nil=>exact absurd rfl hv
 | cons c v=>
  obtain ⟨x,h1,h2⟩:=List.mem_flatMap.1 hu;obtain ⟨z,k1,k2,k3⟩:=zd8.1 h1;obtain ⟨e1,e2⟩:=zp4 hd hn (.inr (.inl h));have e3:hds d [(1,i,0,0)]=[[(1,i,0,0)]]:=by rw [zo1,e1,e2];rfl
  rw [e3,List.mem_singleton] at k1;subst k1;have er:zbn d [(1,i,0,0)] c=([(1,n.2.1,0,0),(5,0,c,0)],true):=by
   unfold zbn;simp only [hn];rw [if_neg (by simp [zet]),if_neg (by decide),if_neg (by decide),if_pos h];rfl
  rw [er] at k3;simp only at k3;subst k3;obtain ⟨f1,f2,f3⟩:=zmu e;have hc:0≤c:=hw c (by rw [← e];simp);cases v with
  | nil=>
   left;rw [zdz,List.mem_singleton] at h2;have:w.length-1=a.length:=by rw [f3];simp
   rw [h2,this,f2]
  | cons b v=>
   right;obtain ⟨u',j1,j2⟩:=ends_held hd hc (by simp) h2;refine ⟨a.length,by rw [f3];simp only [List.length_cons];omega,u',⟨[],b::v,by rw [f1];rfl,by simp,j1⟩, ?_⟩;rw [j2,f2]
   congr 5
   rw [f3];omega
theorem zp3 (h:n.1=9) (hw:∀c∈w,0≤c) (hr:Rch d [(1,i,0,0)] w u):u=[(4,i,w.getD (w.length-1) 0,0)]∨u=[(1,n.2.1,0,0),(5,0,256*w.getD (w.length-2) 0+w.getD (w.length-1) 0,0)]∧2≤w.length ∨
  ∃p:Nat,p<w.length-2∧∃u',Rch d [(1,n.2.1,0,0)] (w.drop (p+2)) u'∧u=u'++[(5,0,256*w.getD p 0+w.getD (p+1) 0-((w.length-(p+2):Nat):Int),0)]:=by
 obtain ⟨a,v,e,hv,hu⟩:=hr;cases v with
 | nil=>exact absurd rfl hv
 | cons c v=>
  obtain ⟨x,h1,h2⟩:=List.mem_flatMap.1 hu;obtain ⟨z,k1,k2,k3⟩:=zd8.1 h1;obtain ⟨e1,e2⟩:=zp4 hd hn (.inr (.inr h));have e3:hds d [(1,i,0,0)]=[[(1,i,0,0)]]:=by rw [zo1,e1,e2];rfl
  rw [e3,List.mem_singleton] at k1;subst k1;have er:zbn d [(1,i,0,0)] c=([(4,i,c,0)],true):=by
   unfold zbn;simp only [hn];rw [if_neg (by simp [zet]),if_neg (by decide),if_neg (by decide),if_neg (by omega),if_pos h];rfl
  rw [er] at k3;simp only at k3;subst k3;obtain ⟨f1,f2,f3⟩:=zmu e;have hc:0≤c:=hw c (by rw [← e];simp);cases v with
  | nil=>
   left;rw [zdz,List.mem_singleton] at h2;have:w.length-1=a.length:=by rw [f3];simp
   rw [h2,this,f2]
  | cons b v=>
   right;have hb:0≤b:=hw b (by rw [← e];simp);obtain ⟨x,h1,h2⟩:=List.mem_flatMap.1 h2;obtain ⟨z,k1,k2,k3⟩:=zd8.1 h1;have e4:hds d [(4,i,c,0)]=[[(4,i,c,0)]]:=by
    have e1:pmI d (4,i,c,0)=[[(4,i,c,0)]]:=by simp [pmI]
    have e2:nwI d (4,i,c,0)=0:=by simp [nwI]
    have e3:hds d [(4,i,c,0)]=(pmI d (4,i,c,0)).map (·++[])++(List.replicate (nwI d (4,i,c,0)) [[]]).flatten:=rfl;rw [e3,e1,e2];rfl
   rw [e4,List.mem_singleton] at k1;subst k1;have er:zbn d [(4,i,c,0)] b=([(1,n.2.1,0,0),(5,0,256*c+b,0)],true):=by
    unfold zbn;simp only [hn];rw [if_neg (by simp [zet]),if_neg (by decide),if_pos trivial];rfl
   rw [er] at k3;simp only at k3;subst k3;have e':(a++[c])++b::v=w:=by rw [← e];simp
   obtain ⟨g1,g2,g3⟩:=zmu e';have hal:(a++[c]).length=a.length+1:=by simp
   rw [hal] at g1 g2 g3;cases v with
   | nil=>
    left;rw [zdz,List.mem_singleton] at h2;have t1:w.length-1=a.length+1:=by rw [g3];simp
    have t2:w.length-2=a.length:=by rw [g3];simp
    refine ⟨by rw [h2,t1,t2,f2,g2],by rw [g3];omega⟩
   | cons q v=>
    right;obtain ⟨u',j1,j2⟩:=ends_held hd (by omega) (by simp) h2;refine ⟨a.length,by rw [g3];simp only [List.length_cons];omega,u',⟨[],q::v,by rw [g1];rfl,by simp,j1⟩, ?_⟩;rw [j2,f2,g2]
    congr 5
    rw [g3];omega
theorem rch_bytes (h:n.1=2) (hr:Rch d [(1,i,0,0)] w u):u=[]:=by
 obtain ⟨a,v,e,hv,hu⟩:=hr;cases v with
 | nil=>exact absurd rfl hv
 | cons c v=>
  obtain ⟨x,h1,h2⟩:=List.mem_flatMap.1 hu;obtain ⟨z,k1,k2,k3⟩:=zd8.1 h1;obtain ⟨e1,e2⟩:=zp4 hd hn (.inl h);have e3:hds d [(1,i,0,0)]=[[(1,i,0,0)]]:=by rw [zo1,e1,e2];rfl
  rw [e3,List.mem_singleton] at k1;subst k1;have er:zbn d [(1,i,0,0)] c=if n.2.2.2.2.2.1.has c.toNat=true then ([],true) else ([],false):=by
   unfold zbn;simp only [hn];rw [if_neg (by simp [zet]),if_neg (by decide),if_neg (by decide),if_neg (by omega),if_neg (by omega)];rfl
  have ex:x=[]:=by rw [← k3,er];split <;> rfl
  subst ex;cases v with
  | nil=>rwa [zdz,List.mem_singleton] at h2
  | cons b v=>
   obtain ⟨x,h1,h2⟩:=List.mem_flatMap.1 h2;obtain ⟨z,k1,k2,k3⟩:=zd8.1 h1;have:z=[]:=by simpa [hds] using k1
   subst this;simp [zbn] at k2
theorem rch_empty (h:n.1=1):¬ Rch d [(1,i,0,0)] w u:=by
 rintro ⟨a,v,e,hv,hu⟩;cases v with
 | nil=>exact absurd rfl hv
 | cons c v=>
  obtain ⟨x,h1,h2⟩:=List.mem_flatMap.1 hu;obtain ⟨z,k1,k2,k3⟩:=zd8.1 h1;have e:=zop hd hn;rw [if_pos h] at e;have e1:pm d i=[]:=by unfold pm;rw [e]
  rw [zo1,e1] at k1;have:z=[]:=by simp at k1;exact k1.2
  subst this;simp [zbn] at k2
omit hd in
theorem ends_text:∀(v:List Int) (lo:Nat) (u:List SItem),u∈zdz d v [(3,i,(lo:Int),0)]→lo<n.2.2.2.2.2.2.length→lo+v.length≤n.2.2.2.2.2.2.length∧u=if lo+v.length<n.2.2.2.2.2.2.length then [(3,i,((lo+v.length:Nat):Int),0)] else []
 | [],lo,u,hu,hlo=>by
  rw [zdz,List.mem_singleton] at hu
  rw [List.length_nil,Nat.add_zero,if_pos hlo]
  exact ⟨by omega,hu⟩
 | c::v,lo,u,hu,hlo=>by
  obtain ⟨x,h1,h2⟩:=List.mem_flatMap.1 hu
  obtain ⟨z,k1,k2,k3⟩:=zd8.1 h1
  have e4:hds d [(3,i,(lo:Int),0)]=[[(3,i,(lo:Int),0)]]:=by
   have e1:pmI d (3,i,(lo:Int),0)=[[(3,i,(lo:Int),0)]]:=by simp [pmI]
   have e2:nwI d (3,i,(lo:Int),0)=0:=by simp [nwI]
   have e3:hds d [(3,i,(lo:Int),0)]=(pmI d (3,i,(lo:Int),0)).map (·++[])++(List.replicate (nwI d (3,i,(lo:Int),0)) [[]]).flatten:=rfl
   rw [e3,e1,e2];rfl
  rw [e4,List.mem_singleton] at k1
  subst k1
  have hr:zbn d [(3,i,(lo:Int),0)] c=if zfz n.2.2.2.2.2.2 (lo:Int)=some c then (if (lo:Int)+1<(n.2.2.2.2.2.2.length:Int) then [(3,i,(lo:Int)+1,0)] else [],true) else ([],false):=by
   unfold zbn
   simp only [hn]
   rw [if_neg (by simp [zet]),if_pos trivial]
   split
   ·split <;> rfl
   ·rfl
  have hb:zfz n.2.2.2.2.2.2 (lo:Int)=some c:=by
   rcases Classical.em (zfz n.2.2.2.2.2.2 (lo:Int)=some c) with h | h
   ·exact h
   ·rw [hr,if_neg h] at k2;cases k2
  rw [hr,if_pos hb] at k3
  simp only at k3
  by_cases hl:lo+1<n.2.2.2.2.2.2.length
  ·rw [if_pos (by omega)] at k3
   have ex:x=[(3,i,((lo+1:Nat):Int),0)]:=by rw [← k3];congr 1
   rw [ex] at h2
   obtain ⟨j1,j2⟩:=ends_text v (lo+1) u h2 hl
   rw [List.length_cons,show lo+(v.length+1)=lo+1+v.length by omega]
   exact ⟨j1,j2⟩
  ·rw [if_neg (by omega)] at k3
   subst k3
   cases v with
   | nil=>
    rw [zdz,List.mem_singleton] at h2
    simp only [List.length_cons,List.length_nil]
    rw [if_neg (by omega)]
    exact ⟨by omega,h2⟩
   | cons b v=>
    exfalso
    obtain ⟨x,h1,h2⟩:=List.mem_flatMap.1 h2
    obtain ⟨z,k1,k2,k3⟩:=zd8.1 h1
    have:z=[]:=by simpa [hds] using k1
    subst this
    simp [zbn] at k2
theorem rch_text (h:n.1=3) (hr:Rch d [(1,i,0,0)] w u):∃k:Nat,k<w.length∧k<n.2.2.2.2.2.2.length∧u=if k+1<n.2.2.2.2.2.2.length then [(3,i,((k+1:Nat):Int),0)] else []:=by
 obtain ⟨a,v,e,hv,hu⟩:=hr;have hlo:0<n.2.2.2.2.2.2.length:=List.length_pos_iff.2 (hd.ntx _ n hn h);have e0:=zop hd hn;rw [if_neg (by omega),if_pos h] at e0;have e1:pm d i=[[(3,i,0,0)]]:=by
  have:pm d i=(PM d d.length i).1:=rfl;rw [this,e0]
 have e2:nw d i=0:=by
  have:nw d i=(PM d d.length i).2:=rfl;rw [this,e0]
 have hu':u∈zdz d v [(3,i,((0:Nat):Int),0)]:=by
  refine zh5 (fun t _ ht=>?_) hv hu;rw [zo1,e1,e2] at ht;have e3:pmI d (3,i,((0:Nat):Int),0)=[[(3,i,0,0)]]:=by simp [pmI]
  have e4:nwI d (3,i,((0:Nat):Int),0)=0:=by simp [nwI]
  have e5:hds d [(3,i,((0:Nat):Int),0)]=(pmI d (3,i,((0:Nat):Int),0)).map (·++[])++(List.replicate (nwI d (3,i,((0:Nat):Int),0)) [[]]).flatten:=rfl;rw [e5,e3,e4];simpa using ht
 obtain ⟨h1,h2⟩:=ends_text hn v 0 u hu' hlo;have hv0:=List.length_pos_iff.2 hv;have hl:=congrArg List.length e;rw [List.length_append] at hl;refine ⟨v.length-1,by omega,by omega, ?_⟩;rw [h2,show 0+v.length=v.length-1+1 by omega]
end
theorem cov_pas {d:List SNode} (hd:ROk d) {f i:Int} (h:Tr d f i):∀w:List Int,(∀c∈w,0≤c)→Cov (pas (i-f+1).toNat w.length) (Rch d [(1,i,0,0)] w):=by
 induction h with
 | leaf he hk hx h0=>
  rename_i i e
  intro w hw;have em:(i-i+1).toNat=1:=by omega
  rw [em];rcases hk with k | k | k
  ·exact Cov.none (fun u=>rch_empty hd he k) _
  ·exact (Cov.one [] fun u hu=>rch_bytes hd he k hu).weak (zlo _ _) fun _ h=>h
  ·have:Cov (sumN (fun _=>1) w.length) (Rch d [(1,i,0,0)] w):=by
    refine (Cov.sum (p:=fun j u=>u=if j+1<e.2.2.2.2.2.2.length then [(3,i,((j+1:Nat):Int),0)] else []) w.length fun j hj=>Cov.one _ fun u hu=>hu).weak (Nat.le_refl _) fun u hu=>?_;obtain ⟨j,h1,_,h2⟩:=rch_text hd he k hu;exact ⟨j,h1,h2⟩
   refine this.weak ?_ fun _ h=>h;have e1:∀k,sumN (fun _=>1) k=k:=fun k=>by
    induction k with
    | zero=>rfl
    | succ k ih=>show sumN (fun _=>1) k+1=_;rw [ih]
   have e2:∀k,pas 1 k=k+1:=fun k=>by
    induction k with
    | zero=>rfl
    | succ k ih=>show 1+pas 1 k=_;rw [ih];omega
   rw [e1,e2];omega
 | one he hk ha hb hr h ih=>
  rename_i f i e
  intro w hw;have hle:=h.le;cases w with
  | nil=>exact Cov.none (fun u=>Rch.none) _
  | cons c0 w0=>
   generalize hwe:c0::w0=w at hw ⊢;have hl:1≤w.length:=by rw [← hwe];simp
   obtain ⟨m,hm⟩:∃m:Nat,(i-1-f+1).toNat=m:=⟨_,rfl⟩;have em:(i-f+1).toNat=m+1:=by omega
   rw [hm] at ih;rw [em];have hdr:∀p,∀c∈w.drop p,0≤c:=fun p c hc=>hw c (List.mem_of_mem_drop hc);rcases hk with k | k | k | k
   ·refine ((ih w hw).map (·++[(1,i,0,0)]) fun u hu=>?_).weak (pas_up _ _) fun _ h=>h;have:=rch_star hd he k hu;rw [ha] at this;exact this
   ·have:=Cov.sum (f:=fun t=>pas m (w.length-t)) (p:=fun t u=>∃u',Rch d [(1,i-1,0,0)] (w.drop t) u'∧u=u'++[zkj i e (t+1)]) w.length fun t ht=>by
     have h1:=ih (w.drop t) (hdr t);rw [List.length_drop] at h1;exact h1.map (·++[zkj i e (t+1)]) fun u hu=>hu
    refine this.weak ?_ fun u hu=>?_
    ·have:=zp6 m w.length w.length (Nat.le_refl _);omega
    ·obtain ⟨t,h1,_,h2⟩:=rch_rep hd he k hu;rw [ha] at h2;exact ⟨t,h1,h2⟩
   ·have:=Cov.sum (f:=fun p=>pas m (w.length-1-p)) (p:=fun p u=>∃u',Rch d [(1,i-1,0,0)] (w.drop (p+1)) u'∧u=u'++[(5,0,w.getD p 0-((w.length-(p+1):Nat):Int),0)]) (w.length-1) fun p hp=>by
     have h1:=ih (w.drop (p+1)) (hdr _);rw [List.length_drop,show w.length-(p+1)=w.length-1-p by omega] at h1;exact h1.map (·++[(5,0,w.getD p 0-((w.length-(p+1):Nat):Int),0)]) fun u hu=>hu
    refine ((Cov.one [(1,i-1,0,0),(5,0,w.getD (w.length-1) 0,0)] (p:=fun u=>u=[(1,i-1,0,0),(5,0,w.getD (w.length-1) 0,0)]) fun u hu=>hu).or this fun u hu=>?_).weak ?_ fun _ h=>h
    ·have:=rch_frame hd he k hw hu;rw [ha] at this;exact this
    ·have h1:=zp6 m (w.length-1) (w.length-1) (Nat.le_refl _);rw [Nat.sub_self,zjx] at h1;have h2:=pas_long (m+1) (Nat.sub_le w.length 1);omega
   ·have:=Cov.sum (f:=fun p=>pas m (w.length-2-p)) (p:=fun p u=>∃u',Rch d [(1,i-1,0,0)] (w.drop (p+2)) u'∧u=u'++[(5,0,256*w.getD p 0+w.getD (p+1) 0-((w.length-(p+2):Nat):Int),0)]) (w.length-2) fun p hp=>by
     have h1:=ih (w.drop (p+2)) (hdr _);rw [List.length_drop,show w.length-(p+2)=w.length-2-p by omega] at h1;exact h1.map (·++[(5,0,256*w.getD p 0+w.getD (p+1) 0-((w.length-(p+2):Nat):Int),0)]) fun u hu=>hu
    by_cases h2:2≤w.length
    ·have c1:=(Cov.one [(4,i,w.getD (w.length-1) 0,0)] (p:=fun u=>u=[(4,i,w.getD (w.length-1) 0,0)]) fun u hu=>hu);have c2:=(Cov.one [(1,i-1,0,0),(5,0,256*w.getD (w.length-2) 0+w.getD (w.length-1) 0,0)] (p:=fun u=>u=[(1,i-1,0,0),(5,0,256*w.getD (w.length-2) 0+w.getD (w.length-1) 0,0)]) fun u hu=>hu);refine (c1.or (c2.or this fun u hu=>hu) fun u hu=>?_).weak ?_ fun _ h=>h
     ·have:=zp3 hd he k hw hu;rw [ha] at this;exact this.imp id fun h=>h.imp (fun h=>h.1) id
     ·have h1:=zp6 m (w.length-2) (w.length-2) (Nat.le_refl _);rw [Nat.sub_self,zjx] at h1;have e1:pas (m+1) (w.length-1)=pas m (w.length-1)+pas (m+1) (w.length-2):=by
       rw [show w.length-1=(w.length-2)+1 by omega];rfl
      have e2:pas (m+1) w.length=pas m w.length+pas (m+1) (w.length-1):=by
       obtain ⟨q,hq⟩:∃q,w.length=q+1:=⟨w.length-1,by omega⟩;rw [hq];rfl
      have:=zlo m (w.length-1);have:=zlo m w.length;omega
    ·refine ((Cov.one [(4,i,w.getD (w.length-1) 0,0)]) fun u hu=>?_).weak (zlo _ _) fun _ h=>h;rcases zp3 hd he k hw hu with h1 | ⟨_,h1⟩ | ⟨p,h1,_⟩
     ·exact h1
     ·exact absurd h1 h2
     ·omega
 | two he hk ha hb h1 h2 i1 i2=>
  rename_i f p i e
  intro w hw;have l1:=h1.le;have l2:=h2.le;cases w with
  | nil=>exact Cov.none (fun u=>Rch.none) _
  | cons c0 w0=>
   generalize hwe:c0::w0=w at hw ⊢;have hl:w.length=w0.length+1:=by rw [← hwe];simp
   have j1:=i1 w hw;have j2:=i2 w hw;have hs:pas (p-1-f+1).toNat w.length+pas (i-1-p+1).toNat w.length≤pas (i-f+1).toNat w.length:=by
    have:=pas_two (p-1-f+1).toNat (i-1-p+1).toNat w0.length;rw [← hl,show (p-1-f+1).toNat+(i-1-p+1).toNat+1=(i-f+1).toNat by omega] at this;exact this
   rcases hk with k | k
   ·refine ((j2.map (·++[(1,i-1,0,0)]) (r:=fun u=>∃t,Rch d [(1,p-1,0,0)] w t∧u=t++[(1,i-1,0,0)]) fun u hu=>hu).or j1 fun u hu=>?_).weak hs fun _ h=>h;have:=rch_seq hd he k hu;rw [ha,hb] at this;exact this
   ·refine (j2.or j1 fun u hu=>?_).weak hs fun _ h=>h;have:=rch_or hd he k hu;rw [ha,hb] at this;exact this
theorem after_cov {d:List SNode} (h:Rt d) {w:List Int} (hw:∀c∈w,0≤c):Cov (pas d.length w.length) (fun u=>u∈zdz d w [(1,(d.length:Int)-1,0,0)]):=by
 cases w with
 | nil=>
  refine (Cov.one [(1,(d.length:Int)-1,0,0)] fun u hu=>?_).weak (zlo _ _) fun _ h=>h
  rwa [zdz,List.mem_singleton] at hu
 | cons c w=>
  refine (cov_pas h.toROk h.tr (c::w) hw).weak ?_ fun u hu=>⟨[],c::w,rfl,by simp,hu⟩;have:((d.length:Int)-1-0+1).toNat=d.length:=by omega
  rw [this];exact Nat.le_refl _
end Go.Proofs.YtahgmdbioafmbaaGreatDoor.V
namespace Go.Proofs.YtahgmdbioafmbaaGreatDoor.V
open Go
set_option linter.unusedVariables false
theorem rch_len {d:List SNode} (hd:ROk d) {f i:Int} (h:Tr d f i):∀(w:List Int) (u:List SItem),(∀c∈w,0≤c)→Rch d [(1,i,0,0)] w u→u.length≤(i-f+1).toNat:=by
 induction h with
 | leaf he hk hx h0=>
  rename_i i e
  intro w u hw hu;rcases hk with k | k | k
  ·exact absurd hu (rch_empty hd he k)
  ·rw [rch_bytes hd he k hu];simp
  ·obtain ⟨j,_,_,h2⟩:=rch_text hd he k hu;rw [h2];split <;> simp
 | one he hk ha hb hr h ih=>
  rename_i f i e
  intro w u hw hu;have hle:=h.le;have hdr:∀p,∀c∈w.drop p,0≤c:=fun p c hc=>hw c (List.mem_of_mem_drop hc);rcases hk with k | k | k | k
  ·obtain ⟨t,h1,rfl⟩:=rch_star hd he k hu;rw [ha] at h1;have:=ih w t hw h1;simp;omega
  ·obtain ⟨t,_,_,u',h1,rfl⟩:=rch_rep hd he k hu;rw [ha] at h1;have:=ih _ u' (hdr t) h1;simp;omega
  ·rcases rch_frame hd he k hw hu with rfl | ⟨p,_,u',h1,rfl⟩
   ·simp;omega
   ·rw [ha] at h1;have:=ih _ u' (hdr _) h1;simp;omega
  ·rcases zp3 hd he k hw hu with rfl | ⟨rfl,_⟩ | ⟨p,_,u',h1,rfl⟩
   ·simp;omega
   ·simp;omega
   ·rw [ha] at h1;have:=ih _ u' (hdr _) h1;simp;omega
 | two he hk ha hb h1 h2 i1 i2=>
  rename_i f p i e
  intro w u hw hu;have l1:=h1.le;have l2:=h2.le;rcases hk with k | k
  ·rcases rch_seq hd he k hu with ⟨t,h1,rfl⟩ | h1
   ·rw [ha] at h1;have:=i2 w t hw h1;simp;omega
   ·rw [hb] at h1;have:=i1 w u hw h1;omega
  ·rcases rch_or hd he k hu with h1 | h1
   ·rw [ha] at h1;have:=i2 w u hw h1;omega
   ·rw [hb] at h1;have:=i1 w u hw h1;omega
theorem after_sm {d:List SNode} (h:Rt d) (hl:d.length≤24) (ht:∀n∈d,n.2.2.2.2.2.2.length≤140737488351232) {w:List Int} (hw:∀c∈w,InR .u8 c) {u:List SItem} (hu:u∈zdz d w [(1,(d.length:Int)-1,0,0)]):Sm d u∧u.length≤24:=by
 have hpos:0<d.length:=List.length_pos_iff.2 h.ne;have hsome:∃n,at? d ((d.length:Int)-1)=some n:=by
  have e:(d.length:Int)-1=((d.length-1:Nat):Int):=by omega
  rw [e,zci];exact ⟨_,List.getElem?_eq_getElem (show d.length-1<d.length by omega)⟩
 have hf:zd4 d [(1,(d.length:Int)-1,0,0)]=true:=zfw (zik hsome) rfl;have hform:=(ends_ok h.toROk w _ hw hf u hu).1;have hlen:u.length≤24:=by
  cases w with
  | nil=>
   rw [zdz,List.mem_singleton] at hu;subst hu;simp
  | cons c w=>
   have:=rch_len h.toROk h.tr (c::w) u (fun c' hc'=>(zjb.1 (hw c' hc')).1) ⟨[],c::w,rfl,by simp,hu⟩;omega
 exact ⟨⟨h,hl,ht,hform,by omega⟩,hlen⟩
theorem on_step {d:List SNode} {s:List SItem} (h:Sm d s) {c:Int} (hc:InR .u8 c):∃o,zb0 d s c o∧zdo d s c o∧Can (fun t=>(zei d c s).count t) o:=by
 obtain ⟨B,R,_,b3,o1,o2,o3⟩:=on_both h hc;exact ⟨R,o1,o2,o3.congr fun t=>fB_step b3 c t⟩
end Go.Proofs.YtahgmdbioafmbaaGreatDoor.V
