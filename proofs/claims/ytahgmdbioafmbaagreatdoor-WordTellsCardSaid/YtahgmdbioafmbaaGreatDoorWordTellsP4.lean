/-
  The texts that the law's proof needs, part 4.
-/
import Derived.Shelf.SlLaysF
import Derived.Shelf.SlSortCmp.Whole1
import Derived.Test.YtahgmdbioafmbaaGreatDoorWordTellsP3

namespace Go.Proofs.YtahgmdbioafmbaaGreatDoor.VD
open Go Go.Proofs.YtahgmdbioafmbaaGreatDoor.V
set_option linter.unusedVariables false
set_option maxRecDepth 100000
theorem zi9 {x_:Int} {r_:Bool} (h:ze6 x_ r_):Fn Tryz.prog 132 [(Pd.rep (En.int .i64) x_)] (Rq (Pd.rep En.bool r_)):=by
 unfold ze6 at h;refine zbi Tryz.func132 J Tryz.ntmps132 (by rfl) (by simp) fun s0 a L=>?_;refine wp_seq_k fun K1 H1=>rg (sw 2 (zy o_b J J) L fun a s L=>?_);refine en' (H1 _ _ ?_);refine wp_seq_k fun K2 H2=>rg (sw 3 (zo (O 0 J) J J) L fun a s L=>?_);refine sw 4 (zo (O 0 J) J J) L fun a s L=>?_;refine sw 5 (t_nei (O 3 J) (O 4 J) J J) L fun a s L=>?_;refine sw 2 (zy (O 5 J) J J) L fun a s L=>?_;refine en' (H2 _ _ ?_);subst h;exact wp_ret (zdm J L J)
theorem zd1 {x_:Int} {y_:Int} {r_:Int} (h:zdb x_ y_ r_):Fn Tryz.prog 96 [(Pd.rep (En.int .i64) x_),(Pd.rep (En.int .i64) y_)] (Rq (Pd.rep (En.int .i64) r_)):=by
 unfold zdb at h;refine zbi Tryz.func96 J Tryz.ntmps96 (by rfl) (by simp) fun s0 a L=>?_;refine wp_seq_k fun K1 H1=>rg (sw 4 (zy oI J J) L fun a s L=>?_);refine en' (H1 _ _ ?_);refine wp_seq_k fun K2 H2=>?_;obtain ⟨r3,h4,h⟩:=h;refine rg (sw 7 (zo (O 0 J) J J) L fun a s L=>?_);refine sw 8 (ze7 (zi9 h4) (xs:=[.tmp 7]) (.cons (O 7 J) .nil) J J) L fun a s L=>?_;refine sw 5 (zy (O 8 J) J J) L fun a s L=>?_;refine en' (H2 _ _ ?_);refine wp_seq_k fun K5 H5=>?_;obtain ⟨r6,h7,h⟩:=h;refine rg (sw 9 (zo (O 1 J) J J) L fun a s L=>?_);refine sw 10 (ze7 (zi9 h7) (xs:=[.tmp 9]) (.cons (O 9 J) .nil) J J) L fun a s L=>?_;refine sw 6 (zy (O 10 J) J J) L fun a s L=>?_;refine en' (H5 _ _ ?_);refine wp_seq_k fun K8 H8=>wp_seq_k fun K9 H9=>rg (sw 11 (zo (O 5 J) J J) L fun a s L=>?_);refine en' (H9 _ _ ?_);refine cnd L J (fun hb_=>?_) (fun hb_=>?_)
 ·replace h:=h.1 hb_;refine wp_seq_k fun K10 H10=>wp_seq_k fun K11 H11=>rg (sw 12 (zo (O 6 J) J J) L fun a s L=>?_);refine en' (H11 _ _ ?_);refine cnd L J (fun hb_=>?_) (fun hb_=>?_)
  ·replace h:=h.1 hb_;refine wp_seq_k fun K12 H12=>rg (sw 4 (zy oI J J) L fun a s L=>?_);refine en' (H12 _ _ ?_);subst h;exact wp_ret (zdm J L J)
  ·replace h:=h.2 hb_;refine wp_skip (H10 _ _ ?_);refine wp_seq_k fun K13 H13=>rg (sw 4 (zy oI J J) L fun a s L=>?_);refine en' (H13 _ _ ?_);subst h;exact wp_ret (zdm J L J)
 ·replace h:=h.2 hb_;refine wp_skip (H8 _ _ ?_);refine wp_seq_k fun K14 H14=>wp_seq_k fun K15 H15=>rg (sw 13 (zo (O 6 J) J J) L fun a s L=>?_);refine en' (H15 _ _ ?_);refine cnd L J (fun hb_=>?_) (fun hb_=>?_)
  ·replace h:=h.1 hb_;refine wp_seq_k fun K16 H16=>rg (sw 4 (zy oI J J) L fun a s L=>?_);refine en' (H16 _ _ ?_);subst h;exact wp_ret (zdm J L J)
  ·replace h:=h.2 hb_;refine wp_skip (H14 _ _ ?_);refine wp_seq_k fun K17 H17=>wp_seq_k fun K18 H18=>rg (sw 14 (zo (O 0 J) J J) L fun a s L=>?_);refine sw 15 (zo (O 1 J) J J) L fun a s L=>?_;refine sw 16 (znj (O 14 J) (O 15 J) J J) L fun a s L=>?_;refine en' (H18 _ _ ?_);refine cnd L J (fun hb_=>?_) (fun hb_=>?_)
   ·replace h:=h.1 hb_;refine wp_seq_k fun K19 H19=>rg (sw 4 (zy oI J J) L fun a s L=>?_);refine en' (H19 _ _ ?_);subst h;exact wp_ret (zdm J L J)
   ·replace h:=h.2 hb_;refine wp_skip (H17 _ _ ?_);refine wp_seq_k fun K20 H20=>wp_seq_k fun K21 H21=>rg (sw 17 (zo (O 0 J) J J) L fun a s L=>?_);refine sw 18 (zo (O 1 J) J J) L fun a s L=>?_;refine sw 19 (t_gtr (O 17 J) (O 18 J) J J) L fun a s L=>?_;refine en' (H21 _ _ ?_);refine cnd L J (fun hb_=>?_) (fun hb_=>?_)
    ·replace h:=h.1 hb_;refine wp_seq_k fun K22 H22=>rg (sw 4 (zy oI J J) L fun a s L=>?_);refine en' (H22 _ _ ?_);subst h;exact wp_ret (zdm J L J)
    ·replace h:=h.2 hb_;refine wp_skip (H20 _ _ ?_);refine wp_seq_k fun K23 H23=>rg (sw 4 (zy oI J J) L fun a s L=>?_);refine en' (H23 _ _ ?_);subst h;exact wp_ret (zdm J L J)
theorem zc2 {s1_:(List SItem)} {s2_:(List SItem)} {cmp_:(SItem × SItem × Int→Prop)} {r_:Int} (h:ze s1_ s2_ cmp_ r_):Fn Tryz.prog 97 [(Pd.rep (En.slice En.SItem) s1_),(Pd.rep (En.slice En.SItem) s2_),(Pd.rep EnF137 cmp_)] (Rq (Pd.rep (En.int .i64) r_)):=by
 unfold ze at h;refine zbi Tryz.func97 J Tryz.ntmps97 (by rfl) (by simp) fun s0 a L=>?_;refine wp_seq_k fun K1 H1=>rg (sw 6 (zy oI J J) L fun a s L=>?_);refine en' (H1 _ _ ?_);refine wp_seq_k fun K2 H2=>wp_seq_k fun K3 H3=>rg (sw 11 (zo (O 0 J) J J) L fun a s L=>?_);refine sw 12 (znk (O 11 J) U47 J J) L fun a s L=>?_;refine sw 13 (zo oI J J) L fun a s L=>?_;refine en' (H3 _ _ ?_);refine wp_block ?_;have J4:∀(a:Act) (s:St),Has N0 39 s0 a s [(0,(Pd.rep (En.slice En.SItem) s1_)),(1,(Pd.rep (En.slice En.SItem) s2_))]→((ze.j1 s1_ s2_ r_))→K2 a s.w:=by
  intro a s L h;unfold ze.j1 at h;show K2 a s.w;refine H2 _ _ (wp_seq_k fun K5 H5=>?_);refine wp_seq_k fun K6 H6=>rg (sw 34 (zo (O 0 J) J J) L fun a s L=>?_);refine sw 35 (znk (O 34 J) U47 J J) L fun a s L=>?_;refine sw 36 (zo (O 1 J) J J) L fun a s L=>?_;refine sw 37 (znk (O 36 J) U47 J J) L fun a s L=>?_;refine sw 38 (znj (O 35 J) (O 37 J) J J) L fun a s L=>?_;refine en' (H6 _ _ ?_);refine cnd L J (fun hb_=>?_) (fun hb_=>?_)
  ·replace h:=h.1 hb_;refine wp_seq_k fun K7 H7=>rg (sw 6 (zy oI J J) L fun a s L=>?_);refine en' (H7 _ _ ?_);subst h;exact wp_ret (zdm J L J)
  ·replace h:=h.2 hb_;refine wp_skip (H5 _ _ ?_);refine wp_seq_k fun K8 H8=>rg (sw 6 (zy oI J J) L fun a s L=>?_);refine en' (H8 _ _ ?_);subst h;exact wp_ret (zdm J L J)
 obtain ⟨k10,h⟩:=h;refine lpg (fun k11 a s=>∃(v9:Int),Has N0 39 s0 a s [(0,(Pd.rep (En.slice En.SItem) s1_)),(1,(Pd.rep (En.slice En.SItem) s2_)),(2,(Pd.rep EnF137 cmp_)),(11,(Pd.rep (En.slice En.SItem) s1_)),(12,(Pd.rep (En.int .i64) (s1_.length:Int))),(13,(Pd.rep (En.int .i64) v9))]∧ze.l1 s1_ s2_ cmp_ r_ (ze.j1 s1_ s2_ r_) k11 v9) k10 ⟨0,L.keep (.k 0 (.k 1 (.k 2 (.k 11 (.k 12 (.k 13 .nil)))))),h⟩ ?_;rintro k11 a s ⟨v9,L,h⟩ KL12 hKL12;cases k11 with
 | zero=>exact h.elim
 | succ k11=>
 unfold ze.l1 at h;refine wp_seq_k fun K13 H13=>rg (sw 14 (znj (O 13 J) (O 12 J) J J) L fun a s L=>?_);refine en' (H13 _ _ ?_);refine wp_seq_k fun K14 H14=>cnd L J (fun hb_=>?_) (fun hb_=>?_)
 ·replace h:=h.1 hb_;refine wp_skip (H14 _ _ ?_);refine wp_seq_k fun K15 H15=>wp_block (wp_seq_k fun K16 H16=>?_);obtain ⟨e17,h18,h⟩:=h;refine rg (sw 15 (zo (O 13 J) J J) L fun a s L=>?_);refine sw 16 (zmi (O 11 J) (O 13 J) h18 U47 zmh J J) L fun a s L=>?_;refine sw 17 (zb8 zmh (O 16 J) J J) L fun a s L=>?_;refine z8 En.SItem (z:=(0,0,0,0)) 8 L zeu J J J J fun a s g19 hg_ L=>?_;refine sw 7 (zy (O 15 J) J J) L fun a s L=>?_;refine zm7 (L':=[(0,(Pd.rep (En.slice En.SItem) s1_)),(1,(Pd.rep (En.slice En.SItem) s2_)),(2,(Pd.rep EnF137 cmp_)),(7,(Pd.rep (En.int .i64) v9)),(11,(Pd.rep (En.slice En.SItem) s1_)),(12,(Pd.rep (En.int .i64) (s1_.length:Int))),(13,(Pd.rep (En.int .i64) v9))]) 8 L J (O 17 J) zmh J J J (.k 0 (.k 1 (.k 2 (.k 7 (.k 11 (.k 12 (.k 13 .nil))))))) fun s L=>?_;refine en' (H16 _ _ ?_);refine wp_seq_k fun K20 H20=>wp_seq_k fun K21 H21=>rg (sw 18 (zo (O 7 J) J J) L fun a s L=>?_);refine sw 19 (zo (O 1 J) J J) L fun a s L=>?_;refine sw 20 (znk (O 19 J) U47 J J) L fun a s L=>?_;refine sw 21 (t_geq (O 18 J) (O 20 J) J J) L fun a s L=>?_;refine en' (H21 _ _ ?_);refine cnd L J (fun hb_=>?_) (fun hb_=>?_)
  ·replace h:=h.1 hb_;refine wp_seq_k fun K22 H22=>rg (sw 6 (zy oI J J) L fun a s L=>?_);refine en' (H22 _ _ ?_);subst h;exact wp_ret (zdm J L J)
  ·replace h:=h.2 hb_;refine wp_skip (H20 _ _ ?_);refine wp_seq_k fun K23 H23=>?_;obtain ⟨e24,h25,h⟩:=h;refine rg (sw 22 (zo (O 1 J) J J) L fun a s L=>?_);refine sw 23 (zo (O 7 J) J J) L fun a s L=>?_;refine sw 24 (zmi (O 22 J) (O 23 J) h25 U47 zmh J J) L fun a s L=>?_;refine sw 25 (zb8 zmh (O 24 J) J J) L fun a s L=>?_;have lt_d27:=L.blt 8 rfl;refine z8 En.SItem (z:=(0,0,0,0)) 9 L zeu J J J J fun a s g26 hg_ L=>?_;have d27:Dis (some g26) (some g19):=Dis.newg hg_ lt_d27;refine zm7 (L':=[(0,(Pd.rep (En.slice En.SItem) s1_)),(1,(Pd.rep (En.slice En.SItem) s2_)),(2,(Pd.rep EnF137 cmp_)),(8,(Pd.box En.SItem s0.w.heap.size g19 e17)),(11,(Pd.rep (En.slice En.SItem) s1_)),(12,(Pd.rep (En.int .i64) (s1_.length:Int))),(13,(Pd.rep (En.int .i64) v9))]) 9 L J (O 25 J) zmh J J J (.k 0 (.k 1 (.k 2 (.cons (t:=8) J (Dis.bx (Dis.symm d27)) (.k 11 (.k 12 (.k 13 .nil))))))) fun s L=>?_;refine en' (H23 _ _ ?_);refine wp_seq_k fun K28 H28=>?_;obtain ⟨r29,h30,h⟩:=h;refine rg (sw 26 (zo (O 2 J) J J) L fun a s L=>?_);refine sw 27 (zjd zmh (O 8 J) J J) L fun a s L=>?_;refine sw 28 (zjd zmh (O 9 J) J J) L fun a s L=>?_;refine sw 29 (zfw (q:=(e17,e24,r29)) (O 26 J) h30 (xs:=[.tmp 27,.tmp 28]) (.cons (O 27 J) (.cons (O 28 J) .nil)) (fun _ _ _ h_=>h_) J J) L fun a s L=>?_;refine sw 10 (zy (O 29 J) J J) L fun a s L=>?_;refine en' (H28 _ _ ?_);refine wp_seq_k fun K31 H31=>rg (sw 30 (zo (O 10 J) J J) L fun a s L=>?_);refine sw 31 (t_nei (O 30 J) oI J J) L fun a s L=>?_;refine en' (H31 _ _ ?_);refine cnd L J (fun hb_=>?_) (fun hb_=>?_)
   ·replace h:=h.1 hb_;refine wp_seq_k fun K32 H32=>rg (sw 32 (zo (O 10 J) J J) L fun a s L=>?_);refine sw 6 (zy (O 32 J) J J) L fun a s L=>?_;refine en' (H32 _ _ ?_);subst h;exact wp_ret (zdm J L J)
   ·replace h:=h.2 hb_;refine wp_skip (H15 _ _ ?_);obtain ⟨h33,h⟩:=h;refine rg (sw 33 (znm (O 13 J) oI h33 J J) L fun a s L=>?_);refine sw 13 (zo (O 33 J) J J) L fun a s L=>?_;refine en' ?_;exact hKL12 k11 a s (Nat.lt_succ_self _) ⟨(v9+1),L.keep (.k 0 (.k 1 (.k 2 (.k 11 (.k 12 (.k 13 .nil)))))),h⟩
 ·replace h:=h.2 hb_;refine wp_exit ?_;exact J4 a s (L.keep (.k 0 (.k 1 .nil))) h
theorem ztk {vals_:(List Int)} {r_:Int} (h:zc6 vals_ r_):Fn Tryz.prog 99 [(Pd.rep (En.slice (En.int .i64)) vals_)] (Rq (Pd.rep (En.int .i64) r_)):=by
 unfold zc6 at h;refine zbi Tryz.func99 J Tryz.ntmps99 (by rfl) (by simp) fun s0 a L=>?_;refine wp_seq_k fun K1 H1=>rg (sw 2 (zy oI J J) L fun a s L=>?_);refine en' (H1 _ _ ?_);refine wp_seq_k fun K2 H2=>rg (sw 3 (zy oI J J) L fun a s L=>?_);refine en' (H2 _ _ ?_);refine wp_seq_k fun K3 H3=>wp_seq_k fun K4 H4=>rg (sw 6 (zo (O 0 J) J J) L fun a s L=>?_);refine sw 7 (znk (O 6 J) U91 J J) L fun a s L=>?_;refine sw 8 (zo oI J J) L fun a s L=>?_;refine en' (H4 _ _ ?_);refine wp_block ?_;have J5:∀(a:Act) (s:St),Has N0 18 s0 a s [(3,(Pd.rep (En.int .i64) 0))]→((zc6.j1 r_))→K3 a s.w:=by
  intro a s L h;unfold zc6.j1 at h;show K3 a s.w;refine H3 _ _ (wp_seq_k fun K6 H6=>?_);refine rg (sw 17 (zo (O 3 J) J J) L fun a s L=>?_);refine sw 2 (zy (O 17 J) J J) L fun a s L=>?_;refine en' (H6 _ _ ?_);subst h;exact wp_ret (zdm J L J)
 obtain ⟨k8,h⟩:=h;refine lpg (fun k9 a s=>∃(v7:Int),Has N0 18 s0 a s [(3,(Pd.rep (En.int .i64) 0)),(6,(Pd.rep (En.slice (En.int .i64)) vals_)),(7,(Pd.rep (En.int .i64) (vals_.length:Int))),(8,(Pd.rep (En.int .i64) v7))]∧zc6.l1 vals_ r_ (zc6.j1 r_) k9 v7) k8 ⟨0,L.keep (.k 3 (.k 6 (.k 7 (.k 8 .nil)))),h⟩ ?_;rintro k9 a s ⟨v7,L,h⟩ KL10 hKL10;cases k9 with
 | zero=>exact h.elim
 | succ k9=>
 unfold zc6.l1 at h;refine wp_seq_k fun K11 H11=>rg (sw 9 (znj (O 8 J) (O 7 J) J J) L fun a s L=>?_);refine en' (H11 _ _ ?_);refine wp_seq_k fun K12 H12=>cnd L J (fun hb_=>?_) (fun hb_=>?_)
 ·replace h:=h.1 hb_;refine wp_skip (H12 _ _ ?_);refine wp_seq_k fun K13 H13=>wp_block (wp_seq_k fun K14 H14=>?_);obtain ⟨e15,h16,h⟩:=h;refine rg (sw 10 (zmi (O 6 J) (O 8 J) h16 U91 ty3 J J) L fun a s L=>?_);refine sw 11 (zb8 ty3 (O 10 J) J J) L fun a s L=>?_;refine sw 5 (zy (O 11 J) J J) L fun a s L=>?_;refine en' (H14 _ _ ?_);refine wp_seq_k fun K17 H17=>rg (sw 12 (zo (O 5 J) J J) L fun a s L=>?_);refine sw 13 (zo (O 3 J) J J) L fun a s L=>?_;refine sw 14 (t_nei (O 12 J) (O 13 J) J J) L fun a s L=>?_;refine en' (H17 _ _ ?_);refine cnd L J (fun hb_=>?_) (fun hb_=>?_)
  ·replace h:=h.1 hb_;refine wp_seq_k fun K18 H18=>rg (sw 15 (zo (O 5 J) J J) L fun a s L=>?_);refine sw 2 (zy (O 15 J) J J) L fun a s L=>?_;refine en' (H18 _ _ ?_);subst h;exact wp_ret (zdm J L J)
  ·replace h:=h.2 hb_;refine wp_skip (H13 _ _ ?_);obtain ⟨h19,h⟩:=h;refine rg (sw 16 (znm (O 8 J) oI h19 J J) L fun a s L=>?_);refine sw 8 (zo (O 16 J) J J) L fun a s L=>?_;refine en' ?_;exact hKL10 k9 a s (Nat.lt_succ_self _) ⟨(v7+1),L.keep (.k 3 (.k 6 (.k 7 (.k 8 .nil)))),h⟩
 ·replace h:=h.2 hb_;refine wp_exit ?_;exact J5 a s (L.keep (.k 3 .nil)) h
theorem zmy {x_:SItem} {y_:SItem} {r_:Int} (h:zd3 x_ y_ r_):Fn Tryz.prog 98 [(Pd.rep En.SItem x_),(Pd.rep En.SItem y_)] (Rq (Pd.rep (En.int .i64) r_)):=by
 unfold zd3 at h;refine zbi Tryz.func98 J Tryz.ntmps98 (by rfl) (by simp) fun s0 a L=>?_;refine wp_seq_k fun K1 H1=>rg (sw 2 (zpv (O 0 J) J J) L fun a s L=>?_);refine sw 3 (zpv (O 1 J) J J) L fun a s L=>?_;refine sw 4 (zy oI J J) L fun a s L=>?_;refine en' (H1 _ _ ?_);refine wp_seq_k fun K2 H2=>?_;obtain ⟨r3,h4,r5,h6,r7,h8,r9,h10,r11,h12,h⟩:=h;refine rda zds 22 [(Pd.ptr (En.int .i64) x_.1),(Pd.rep (En.int .i64) x_.1),(Pd.ptr (En.int .i64) y_.1),(Pd.rep (En.int .i64) y_.1),(Pd.rep (En.int .i64) r3),(Pd.ptr (En.int .i64) x_.2.1),(Pd.rep (En.int .i64) x_.2.1),(Pd.ptr (En.int .i64) y_.2.1),(Pd.rep (En.int .i64) y_.2.1),(Pd.rep (En.int .i64) r5),(Pd.ptr (En.int .i64) x_.2.2.1),(Pd.rep (En.int .i64) x_.2.2.1),(Pd.ptr (En.int .i64) y_.2.2.1),(Pd.rep (En.int .i64) y_.2.2.1),(Pd.rep (En.int .i64) r7),(Pd.ptr (En.int .i64) x_.2.2.2),(Pd.rep (En.int .i64) x_.2.2.2),(Pd.ptr (En.int .i64) y_.2.2.2),(Pd.rep (En.int .i64) y_.2.2.2),(Pd.rep (En.int .i64) r9),(Pd.rep (En.slice (En.int .i64)) [r3,r5,r7,r9]),(Pd.rep (En.int .i64) r11)] L (by kernel_rfl) J J ?_ ?_
 ·refine zbf.cons (zje (off:=0) (O 2 J) U77 J (zbk (z6 _ _)) J ty3 J J) ?_;refine zbf.cons (zb8 ty3 (O 5 J) J J) ?_;refine zbf.cons (zje (off:=0) (O 3 J) U77 J (zbk (z6 _ _)) J ty3 J J) ?_;refine zbf.cons (zb8 ty3 (O 7 J) J J) ?_;refine zbf.cons (ze7 (zd1 h4) (xs:=[.tmp 6,.tmp 8]) (.cons (O 6 J) (.cons (O 8 J) .nil)) J J) ?_;refine zbf.cons (zje (off:=1) (O 2 J) U77 J (zn (zbk (z6 _ _)) J) J ty3 J J) ?_;refine zbf.cons (zb8 ty3 (O 10 J) J J) ?_;refine zbf.cons (zje (off:=1) (O 3 J) U77 J (zn (zbk (z6 _ _)) J) J ty3 J J) ?_;refine zbf.cons (zb8 ty3 (O 12 J) J J) ?_;refine zbf.cons (ze7 (zd1 h6) (xs:=[.tmp 11,.tmp 13]) (.cons (O 11 J) (.cons (O 13 J) .nil)) J J) ?_;refine zbf.cons (zje (off:=2) (O 2 J) U77 J (zn (zn (zbk (z6 _ _)) J) J) J ty3 J J) ?_;refine zbf.cons (zb8 ty3 (O 15 J) J J) ?_;refine zbf.cons (zje (off:=2) (O 3 J) U77 J (zn (zn (zbk (z6 _ _)) J) J) J ty3 J J) ?_;refine zbf.cons (zb8 ty3 (O 17 J) J J) ?_;refine zbf.cons (ze7 (zd1 h8) (xs:=[.tmp 16,.tmp 18]) (.cons (O 16 J) (.cons (O 18 J) .nil)) J J) ?_;refine zbf.cons (zje (off:=3) (O 2 J) U77 J (zn (zn (zn (z6 _ _) J) J) J) J ty3 J J) ?_;refine zbf.cons (zb8 ty3 (O 20 J) J J) ?_;refine zbf.cons (zje (off:=3) (O 3 J) U77 J (zn (zn (zn (z6 _ _) J) J) J) J ty3 J J) ?_;refine zbf.cons (zb8 ty3 (O 22 J) J J) ?_;refine zbf.cons (ze7 (zd1 h10) (xs:=[.tmp 21,.tmp 23]) (.cons (O 21 J) (.cons (O 23 J) .nil)) J J) ?_;refine zbf.cons (t_lit (xs:=[.tmp 9,.tmp 14,.tmp 19,.tmp 24]) (.cons (O 9 J) (.cons (O 14 J) (.cons (O 19 J) (.cons (O 24 J) .nil)))) U91 ty3 J J (by decide) J J) ?_
  refine zbf.cons (ze7 (ztk h12) (xs:=[.tmp 25]) (.cons (O 25 J) .nil) J J) ?_;exact zbf.nil
 intro a s _ L;refine sw 4 (zy (O 26 J) J J) L fun a s L=>?_;refine en' (H2 _ _ ?_);subst h;exact wp_ret (zdm J L J)
theorem zjt {a_:(List SItem)} {b_:(List SItem)} {r_:Int} (h:zgd a_ b_ r_):Fn Tryz.prog 58 [(Pd.rep (En.slice En.SItem) a_),(Pd.rep (En.slice En.SItem) b_)] (Rq (Pd.rep (En.int .i64) r_)):=by
 unfold zgd at h;refine zbi Tryz.func58 J Tryz.ntmps58 (by rfl) (by simp) fun s0 a L=>?_;refine wp_seq_k fun K1 H1=>rg (sw 4 (zy oI J J) L fun a s L=>?_);refine en' (H1 _ _ ?_);refine wp_seq_k fun K2 H2=>wp_seq_k fun K3 H3=>?_;obtain ⟨r4,h5,h⟩:=h;refine rg (sw 6 (zo (O 0 J) J J) L fun a s L=>?_);refine sw 7 (znk (O 6 J) U47 J J) L fun a s L=>?_;refine sw 8 (zo (O 1 J) J J) L fun a s L=>?_;refine sw 9 (znk (O 8 J) U47 J J) L fun a s L=>?_;refine sw 10 (ze7 (zd1 h5) (xs:=[.tmp 7,.tmp 9]) (.cons (O 7 J) (.cons (O 9 J) .nil)) J J) L fun a s L=>?_;refine sw 5 (zy (O 10 J) J J) L fun a s L=>?_;refine en' (H3 _ _ ?_);refine wp_seq_k fun K6 H6=>rg (sw 11 (zo (O 5 J) J J) L fun a s L=>?_);refine sw 12 (t_nei (O 11 J) oI J J) L fun a s L=>?_;refine en' (H6 _ _ ?_);refine cnd L J (fun hb_=>?_) (fun hb_=>?_)
 ·replace h:=h.1 hb_;refine wp_seq_k fun K7 H7=>rg (sw 13 (zo (O 5 J) J J) L fun a s L=>?_);refine sw 4 (zy (O 13 J) J J) L fun a s L=>?_;refine en' (H7 _ _ ?_);subst h;exact wp_ret (zdm J L J)
 ·replace h:=h.2 hb_;refine wp_skip (H2 _ _ ?_);refine wp_seq_k fun K8 H8=>?_;obtain ⟨r9,h10,h⟩:=h;refine rg (sw 14 (zo (O 0 J) J J) L fun a s L=>?_);refine sw 15 (zo (O 1 J) J J) L fun a s L=>?_;refine sw 16 (ze7 (zc2 h10) (xs:=[.tmp 14,.tmp 15,.func 98]) (.cons (O 14 J) (.cons (O 15 J) (.cons (o_q (Pd.rep EnF137 (fun q_=>zd3 q_.1 q_.2.1 q_.2.2)) (o_fun (zfh Tryz.func98 J (by rfl)) (fun q_ h_=>zmy h_))) .nil))) J J) L fun a s L=>?_;refine sw 4 (zy (O 16 J) J J) L fun a s L=>?_;refine en' (H8 _ _ ?_);subst h;exact wp_ret (zdm J L J)
theorem heads_Heads_1_ok {a_:SBranch} {b_:SBranch} {r_:Int} (h:zl3 a_ b_ r_):Fn Tryz.prog 117 [(Pd.rep En.SBranch a_),(Pd.rep En.SBranch b_)] (Rq (Pd.rep (En.int .i64) r_)):=by
 unfold zl3 at h;refine zbi Tryz.func117 J Tryz.ntmps117 (by rfl) (by simp) fun s0 a L=>?_;refine wp_seq_k fun K1 H1=>rg (sw 2 (zpv (O 0 J) J J) L fun a s L=>?_);refine sw 3 (zpv (O 1 J) J J) L fun a s L=>?_;refine sw 4 (zy oI J J) L fun a s L=>?_;refine en' (H1 _ _ ?_);refine wp_seq_k fun K2 H2=>?_;obtain ⟨r3,h4,h⟩:=h;refine rg (sw 5 (zje (off:=0) (O 2 J) U82 J (zbk (z6 _ _)) J zrk J J) L fun a s L=>?_);refine sw 6 (zb8 zrk (O 5 J) J J) L fun a s L=>?_;refine sw 7 (zje (off:=0) (O 3 J) U82 J (zbk (z6 _ _)) J zrk J J) L fun a s L=>?_;refine sw 8 (zb8 zrk (O 7 J) J J) L fun a s L=>?_;refine sw 9 (ze7 (zjt h4) (xs:=[.tmp 6,.tmp 8]) (.cons (O 6 J) (.cons (O 8 J) .nil)) J J) L fun a s L=>?_;refine sw 4 (zy (O 9 J) J J) L fun a s L=>?_;refine en' (H2 _ _ ?_);subst h;exact wp_ret (zdm J L J)
theorem next_On_1_ok {a_:SBranch} {b_:SBranch} {r_:Int} (h:next_On_1 a_ b_ r_):Fn Tryz.prog 92 [(Pd.rep En.SBranch a_),(Pd.rep En.SBranch b_)] (Rq (Pd.rep (En.int .i64) r_)):=by
 unfold next_On_1 at h;refine zbi Tryz.func92 J Tryz.ntmps92 (by rfl) (by simp) fun s0 a L=>?_;refine wp_seq_k fun K1 H1=>rg (sw 2 (zpv (O 0 J) J J) L fun a s L=>?_);refine sw 3 (zpv (O 1 J) J J) L fun a s L=>?_;refine sw 4 (zy oI J J) L fun a s L=>?_;refine en' (H1 _ _ ?_);refine wp_seq_k fun K2 H2=>?_;obtain ⟨r3,h4,h⟩:=h;refine rg (sw 5 (zje (off:=0) (O 2 J) U82 J (zbk (z6 _ _)) J zrk J J) L fun a s L=>?_);refine sw 6 (zb8 zrk (O 5 J) J J) L fun a s L=>?_;refine sw 7 (zje (off:=0) (O 3 J) U82 J (zbk (z6 _ _)) J zrk J J) L fun a s L=>?_;refine sw 8 (zb8 zrk (O 7 J) J J) L fun a s L=>?_;refine sw 9 (ze7 (zjt h4) (xs:=[.tmp 6,.tmp 8]) (.cons (O 6 J) (.cons (O 8 J) .nil)) J J) L fun a s L=>?_;refine sw 4 (zy (O 9 J) J J) L fun a s L=>?_;refine en' (H2 _ _ ?_);subst h;exact wp_ret (zdm J L J)
end Go.Proofs.YtahgmdbioafmbaaGreatDoor.VD
namespace Go.Proofs.YtahgmdbioafmbaaGreatDoor.V
open Go Go.Shelf Go.Sort
set_option linter.unusedVariables false
theorem cmpS_le {x y z:List SItem} (h1:zfd x y≤0) (h2:zfd y z≤0):zfd x z≤0:=by
 rcases Int.lt_or_le (zfd x y) 0 with a | a
 ·rcases Int.lt_or_le (zfd y z) 0 with b | b
  ·have:=zg0 a b;omega
  ·have e:zfd y z=0:=by omega
   rw [← zen.1 e];exact h1
 ·have e:zfd x y=0:=by omega
  rw [zen.1 e];exact h2
theorem swo_branch:SWO (Go.Proofs.ltOf fun x y:SBranch=>zfd x.1 y.1):=swo_cmp (fun x=>zjx _) (fun x y=>zgh _ _) fun x y z h1 h2=>cmpS_le h1 h2
theorem srtB_uniq {x y:List SBranch} (hn:(x.map (·.1)).Nodup) (hp:y.Perm x) (hs:y.Pairwise (fun a b=>¬ zfd b.1 a.1<0)):y=srtB x:=by
 have hny:(y.map (·.1)).Nodup:=(hp.map (·.1)).nodup_iff.2 hn;refine zlk ?_ (zny hn) fun b=>by rw [hp.mem_iff,(zg3 x).mem_iff]
 have h2:y.Pairwise (fun a b=>a.1≠b.1):=List.pairwise_map.1 hny;refine (hs.and h2).imp fun {a b} h=>?_;have h3:=zgh b.1 a.1;have h4:zfd a.1 b.1≠0:=fun e=>h.2 (zen.1 e);omega
theorem fm_branch {g:FuncId} (eg:∀(args:Array Value) (w:World),(callFunc g args).run Tryz.prog w = .ok (.enter g args) w) {x r:List SBranch} (hn:(x.map (·.1)).Nodup) (hl:x.length≤2147483648) (hr:r=srtB x)
  (hc:∀a∈x,∀b∈x,VD.Fn Tryz.prog g [VD.Pd.rep VD.En.SBranch a,VD.Pd.rep VD.En.SBranch b] (VD.Rq (VD.Pd.rep (VD.En.int .i64) (zfd a.1 b.1)))) (v0:Value):
  Fm Tryz.prog 91 (fun b=>v0.ownBlock=some b) [Pd.prow En.SBranch 82 v0 x,Pd.is (.func (.func g) #[] #[])] (fun _ s' _=>(Pd.prow En.SBranch 82 v0 r).p s' v0):=by
 have h:=fm_sort slsort (E:=En.SBranch) (E':=VD.En.SBranch) (te:=82) (g:=g) (cf:=fun a b:SBranch=>zfd a.1 b.1) rfl ty82 rfl rfl (fun h=>h) (zfh Tryz.func91 rfl (by rfl)) eg swo_branch hl hc v0;refine ⟨h.call,fun s vs hg hM hv=>(h.run s vs hg hM hv).mono fun e w' ⟨v,s',he,hw,hfr,ys,hp,hs,hrow⟩=>⟨v,s',he,hw,hfr, ?_⟩⟩;rw [hr,← srtB_uniq hn hp hs];exact hrow
theorem zjh (v0:Value) {x r:List SBranch} (h:zhg x r):Fm Tryz.prog 91 (fun b=>v0.ownBlock=some b) [Pd.prow En.SBranch 82 v0 x,Pd.is (.func (.func 117) #[] #[])] (fun _ s' _=>(Pd.prow En.SBranch 82 v0 r).p s' v0):=fm_branch (zfh Tryz.func117 rfl (by rfl)) h.1 h.2.2.1 h.2.2.2 (fun a ha b hb=>VD.heads_Heads_1_ok ⟨_,zha (h.2.1 a ha),rfl⟩) v0
theorem o_isf {L:Lst} {f:FuncId}:Opn L (.func f) (Pd.is (.func (.func f) #[] #[])):=fun _ _ _ _ _ _=>rfl
end Go.Proofs.YtahgmdbioafmbaaGreatDoor.V
namespace Go.Proofs.YtahgmdbioafmbaaGreatDoor.V
open Go
set_option linter.unusedVariables false
set_option maxRecDepth 100000
noncomputable abbrev Efmp:En (List (Str × SBranch)):=En.fmap En.str kvStr En.SBranch
noncomputable abbrev Efinder:En (SDesc × Option Nat):=En.cat En.SDesc En.mref
theorem tyzFinder:TyZ Tryz.prog 161 Efinder (([],none):SDesc × Option Nat):=⟨_,_,([.slice none 0 0]++[.map none]),rfl,rfl,by rfl,fun _ _=>⟨[.slice none 0 0],[.map none],rfl,⟨_,rfl,zer _ _ _⟩,rfl⟩⟩
theorem sttFinder:Stt Tryz.prog 161 [(0,1),(1,1)]:=⟨_,Tryz.underlying161,by kernel_rfl⟩
theorem tyMap:Ty Tryz.prog 159 En.mref:=⟨⟨_,_,rfl,rfl,rfl,rfl,by decide⟩,_,rfl,rfl⟩
theorem tyvMap:TyV Tryz.prog 162 Efmp []:=⟨_,[.map none],rfl,by rfl,fun _ _=>⟨_,rfl,.inl ⟨rfl,rfl⟩⟩⟩
theorem tyvBranch:TyV Tryz.prog 82 En.SBranch (([],0):SBranch):=⟨_,[.slice none 0 0]++[.int .i64 0],rfl,by rfl,fun _ _=>⟨_,_,rfl,⟨_,rfl,zer _ _ _⟩,⟨rfl,by decide⟩⟩⟩
def GoodM (d:List SNode) (t:List SItem) (m:List (Str × SBranch)):Prop:=∃h l,lv d h t=some l∧zmc (fun u=>l.count u) m
def InvS (d:List SNode) (xs:List (Str × List (Str × SBranch))):Prop:=∀k m,(k,m)∈xs→∃t,k=keyS t∧GoodM d t m
theorem InvS.get {d:List SNode} {xs} (h:InvS d xs) {t:List SItem} (hm:zie xs (keyS t)=true):GoodM d t (zex xs (keyS t) []):=by
 obtain ⟨t',e,hg⟩:=h _ _ (mget_in hm []);have:=zgw.1 e;subst this;exact hg
theorem InvS.put {d:List SNode} {xs} (h:InvS d xs) {t:List SItem} {m} (hg:GoodM d t m):InvS d (zgb xs (keyS t) m):=by
 intro k m' hm;rcases zsx.1 hm with e | ⟨_,hm⟩
 ·cases e;exact ⟨t,rfl,hg⟩
 ·exact h k m' hm
theorem InvS.nil (d:List SNode):InvS d []:=fun k m h=>by cases h
abbrev FndOk (d:List SNode) (g:Nat) (t:List SItem) (xs:List (Str × List (Str × SBranch))):Prop:=
 Fc Tryz.prog 116 En.str kvStr Efmp g xs [Pd.ptr Efinder (d,some g),Pd.rep (En.slice En.SItem) t] (fun i:List (Str × SBranch) × List (Str × List (Str × SBranch))=>GoodM d t i.1∧InvS d i.2) (fun i=>Pd.rep Efmp i.1) (fun i=>i.2)
theorem no_g {og:Option Nat} {g N:Nat} (hg:g<N) (h:∀b,og=some b→N≤b):∀b,og=some b→¬ some g=some b:=fun b hb e=>by cases e;have:=h g hb;omega
theorem no_o {og:Option Nat} {g N:Nat} (hg:g<N) (h:∀b,og=some b→N≤b):∀b,some g=some b→¬ og=some b:=fun b e hb=>by cases e;have:=h g hb;omega
structure Left (c:List SItem→Nat) (rem:List (Str × SBranch)):Prop where
 kn:KN rem
 ent:∀p∈rem,p.1=keyS p.2.1∧c p.2.1≠0∧p.2.2=sat (c p.2.1)
theorem zmc.left {c:List SItem→Nat} {m:List (Str × SBranch)} (h:zmc c m):Left c m:=⟨h.kn,fun p hp=>(h.mem p.1 p.2).1 hp⟩
theorem Left.perm {c:List SItem→Nat} {l m:List (Str × SBranch)} (h:Left c l) (hp:l.Perm m):Left c m:=⟨h.kn.perm hp,fun p hm=>h.ent p (hp.mem_iff.2 hm)⟩
theorem Left.tail {c:List SItem→Nat} {p:Str × SBranch} {l:List (Str × SBranch)} (h:Left c (p::l)):Left c l∧keyS p.2.1 ∉ l.map (·.1):=by
 have hk:=h.kn;unfold KN at hk;rw [List.map_cons,List.nodup_cons] at hk;exact ⟨⟨hk.2,fun q hq=>h.ent q (by simp [hq])⟩,by rw [← (h.ent p (by simp)).1];exact hk.1⟩
def cnt (f c:List SItem→Nat) (rem:List (Str × SBranch)) (u:List SItem):Nat:=f u+if keyS u∈rem.map (·.1) then 0 else c u
theorem cnt_start {f c:List SItem→Nat} {m rem:List (Str × SBranch)} (h:zmc c m) (hp:m.Perm rem) (u:List SItem):cnt f c rem u=f u:=by
 unfold cnt
 by_cases hc:c u=0
 ·simp [hc]
 ·rw [if_pos];· rfl
  exact List.mem_map.2 ⟨(keyS u,(u,sat (c u))),hp.mem_iff.1 ((h.mem _ _).2 ⟨rfl,hc,rfl⟩),rfl⟩
theorem cnt_perm {f c:List SItem→Nat} {l m:List (Str × SBranch)} (hp:l.Perm m) (u:List SItem):cnt f c l u=cnt f c m u:=by
 unfold cnt;have h:=(hp.map (·.1)).mem_iff (a:=keyS u)
 by_cases hu:keyS u∈l.map (·.1)
 ·rw [if_pos hu,if_pos (h.1 hu)]
 ·rw [if_neg hu,if_neg (fun k=>hu (h.2 k))]
theorem cnt_nil {f c:List SItem→Nat} (u:List SItem):cnt f c [] u=f u+c u:=by simp [cnt]
theorem cnt_step {f c:List SItem→Nat} {p:Str × SBranch} {l:List (Str × SBranch)} (h:Left c (p::l)) {out:List (Str × SBranch)} (ho:zmc (cnt f c (p::l)) out):
  zmc (cnt f c l) (zgb out p.1 (p.2.1,min ((zex out p.1 (([],0):SBranch)).2+p.2.2) 2)):=by
 obtain ⟨h1,h2⟩:=h.tail;obtain ⟨e1,e2,e3⟩:=h.ent p (by simp);rw [e1,e3];refine (ho.put p.2.1 e2).congr fun t=>?_;unfold cnt;simp only [List.map_cons,List.mem_cons,e1,zgw]
 by_cases ht:t=p.2.1
 ·subst ht;rw [if_pos (.inl rfl),if_neg h2,if_pos rfl];rfl
 ·simp only [ht,false_or,if_false,Nat.add_zero]
theorem zn1 {α β:Type} {f:α→Option β}:∀{l:List α} {r:List β},l.mapM f=some r→r.length=l.length
 | [],r,h=>by simp at h;subst h;rfl
 | a::l,r,h=>by
  rw [List.mapM_cons] at h;cases ha:f a with
  | none=>rw [ha] at h;simp at h
  | some b=>
   rw [ha] at h;cases hl:l.mapM f with
   | none=>rw [hl] at h;simp at h
   | some bs=>
    rw [hl] at h;have e:b::bs=r:=by simpa using h
    rw [← e];simp [zn1 hl]
theorem zsz {α β:Type} {f:α→Option β}:∀{l:List α} {r:List β},l.mapM f=some r→∀{i:Nat} (hi:i<l.length),∃b,f l[i]=some b∧r[i]?=some b
 | [],r,_,i,hi=>by simp at hi
 | a::l,r,h,i,hi=>by
  rw [List.mapM_cons] at h;cases ha:f a with
  | none=>rw [ha] at h;simp at h
  | some b=>
   rw [ha] at h;cases hl:l.mapM f with
   | none=>rw [hl] at h;simp at h
   | some bs=>
    rw [hl] at h;have e:b::bs=r:=by simpa using h
    subst e;cases i with
    | zero=>exact ⟨b,ha,rfl⟩
    | succ i=>
     obtain ⟨b',h1,h2⟩:=zsz hl (i:=i) (by simpa using hi);exact ⟨b',by simpa using h1,by simpa using h2⟩
theorem take_flat {α:Type} {ls:List (List α)} {i:Nat} {l:List α} (h:ls[i]?=some l):(ls.take (i+1)).flatten=(ls.take i).flatten++l:=by
 have hi:=(List.getElem?_eq_some_iff.1 h).1;have e:=(List.getElem?_eq_some_iff.1 h).2;rw [List.take_succ_eq_append_getElem hi,e,List.flatten_append];simp
theorem find_step {d:List SNode} (hd:ROk d) (hk:DOk d) (hl4:d.length≤400) (g:Nat) {h:Nat} (ih:∀(t:List SItem) (l:List (List SItem)),lv d h t=some l→Vs d 400 t→∀xs,InvS d xs→FndOk d g t xs) (hd0:∃n,at? d 0=some n)
  {t:List SItem} {l:List (List SItem)} (hl:lv d (h+1) t=some l) (hv:Vs d 400 t) {xs:List (Str × List (Str × SBranch))} (hxs:InvS d xs):FndOk d g t xs:=by
 have htl:=hv.len;refine fc_of Tryz.func116 rfl Tryz.ntmps116 (by rfl) (by simp) fun s0 a hL=>?_;have hgs:g<s0.w.heap.size:=by
  obtain ⟨hX,_⟩:=hL.get 999902 rfl;exact s0.lt g hX
 refine wp_seq_k fun K0 hK0=>?_;refine rg ?_;refine st 4 (zy (q:=Pd.any) (fun _ _ _ _ _ _=>trivial) rfl rfl) rfl rfl hL fun a s e_ hL=>?_;refine en' ?_;show K0 a s.w;refine hK0 _ _ ?_;refine wp_seq_k fun K1 hK1=>?_;refine rg ?_;refine st 14 (zo (o_t 1 rfl) rfl rfl) rfl rfl hL fun a s e_ hL=>?_;refine st 15 (ze7 (zi0 (zpc (s:=t) (by omega))) (xs:=[.tmp 14]) (.cons (o_t 14 rfl) .nil) rfl rfl) rfl rfl hL fun a s e_ hL=>?_;refine st 5 (zy (o_t 15 rfl) rfl rfl) rfl rfl hL fun a s e_ hL=>?_;refine en' ?_;show K1 a s.w;refine hK1 _ _ ?_;refine wp_seq_k fun K2 hK2=>?_;refine wp_seq_k fun K3 hK3=>?_;refine rg ?_;refine st 17 (zo (o_t 0 rfl) rfl rfl) rfl rfl hL fun a s e_ hL=>?_;refine st 18 (t_nc (o_t 17 rfl) zlt rfl rfl) rfl rfl hL fun a s e_ hL=>?_;refine st 19 (zje (off:=1) (o_t 18 rfl) Tryz.underlying161 rfl (zn (z6 _ _) rfl) rfl tyMap rfl rfl) rfl rfl hL fun a s e_ hL=>?_;refine st 20 (zb8 tyMap (o_t 19 rfl) rfl rfl) rfl rfl hL fun a s e_ hL=>?_;refine st 21 (zo (o_t 5 rfl) rfl rfl) rfl rfl hL fun a s e_ hL=>?_;refine st 22 (t_mgetcok (m:=999902) rfl (o_t 20 rfl) (o_t 21 rfl) Tryz.underlying159 (zey Tryz.underlying9) tyvMap rfl rfl) rfl rfl hL fun a s e_ hL=>?_;refine st 16 (zo (o_t 22 rfl) rfl rfl) rfl rfl hL fun a s e_ hL=>?_;refine st 23 (t_ext0 (o_t 16 rfl) rfl rfl) rfl rfl hL fun a s e_ hL=>?_;refine st 24 (zog (o_t 16 rfl) rfl rfl) rfl rfl hL fun a s e_ hL=>?_;refine st 6 (zy (o_t 23 rfl) rfl rfl) rfl rfl hL fun a s e_ hL=>?_;refine st 7 (zy (o_t 24 rfl) rfl rfl) rfl rfl hL fun a s e_ hL=>?_
 refine en' ?_;show K3 a s.w;refine hK3 _ _ ?_;refine wp_seq_k fun K4 hK4=>?_;refine rg ?_;refine st 25 (zo (o_t 7 rfl) rfl rfl) rfl rfl hL fun a s e_ hL=>?_;refine en' ?_;show K4 a s.w;refine hK4 _ _ ?_;refine cnd hL rfl (fun hb_=>?_) (fun hb_=>?_)
 ·refine wp_seq_k fun K5 hK5=>?_;refine rg ?_;refine st 26 (zo (o_t 6 rfl) rfl rfl) rfl rfl hL fun a s e_ hL=>?_;refine st 4 (zy (o_t 26 rfl) rfl rfl) rfl rfl hL fun a s e_ hL=>?_;refine en' ?_;show K5 a s.w;refine hK5 _ _ ?_;exact wp_ret (retc (zex xs (keyS t) [],xs) ⟨hxs.get hb_,hxs⟩ rfl hL rfl rfl)
 refine wp_skip ?_;show K2 a s.w;refine hK2 _ _ ?_;refine wp_seq_k fun K6 hK6=>?_;refine rg ?_;refine zj8 27 En.str kvStr En.SBranch hL rfl rfl rfl rfl fun a s g8 hg8 hL=>?_;have hng:∀b,some g8=some b→s0.w.heap.size≤b:=fun b hb=>(znb (hL.get 27 rfl) b hb).1;refine st 8 (zy (o_t 27 rfl) rfl rfl) rfl rfl hL fun a s e_ hL=>?_;refine en' ?_;show K6 a s.w;refine hK6 _ _ ?_;refine wp_seq_k fun K7 hK7=>?_;refine wp_seq_k fun K8 hK8=>?_;refine rg ?_;refine st 28 (zo (o_t 0 rfl) rfl rfl) rfl rfl hL fun a s e_ hL=>?_;refine st 29 (t_nc (o_t 28 rfl) zlt rfl rfl) rfl rfl hL fun a s e_ hL=>?_;refine st 30 (zje (off:=0) (o_t 29 rfl) Tryz.underlying161 rfl (zbk (z6 _ _)) rfl ty24 rfl rfl) rfl rfl hL fun a s e_ hL=>?_;refine st 31 (zb8 ty24 (o_t 30 rfl) rfl rfl) rfl rfl hL fun a s e_ hL=>?_;refine st 32 (zo (o_t 1 rfl) rfl rfl) rfl rfl hL fun a s e_ hL=>?_;refine st 33 (ze7 (zqj (zqk hd hv.form)) (xs:=[.tmp 31,.tmp 32]) (.cons (o_t 31 rfl) (.cons (o_t 32 rfl) .nil)) rfl rfl) rfl rfl hL fun a s e_ hL=>?_;refine en' ?_;show K8 a s.w;refine hK8 _ _ ?_;refine cnd hL rfl (fun hb_=>?_) (fun hb_=>?_)
 ·have hgood:GoodM d t (zgb [] (keyS t) (t,1)):=⟨1,[t],by simp [lv,hb_],zmc.one t⟩;refine wp_seq_k fun K9 hK9=>?_;refine rg ?_;refine st 34 (zo (o_t 8 rfl) rfl rfl) rfl rfl hL fun a s e_ hL=>?_;refine st 35 (zo (o_t 5 rfl) rfl rfl) rfl rfl hL fun a s e_ hL=>?_;refine st 36 (zo (o_t 1 rfl) rfl rfl) rfl rfl hL fun a s e_ hL=>?_;refine st 37 (ze7 (zdv (clone_in (s:=t) (by omega))).frz (xs:=[.tmp 36]) (.cons (o_t 36 rfl) .nil) rfl rfl) rfl rfl hL fun a s e_ hL=>?_;refine st 38 (zbj (x:=((t,1):SBranch)) (ps:=[(0,.tmp 37),(1,.const (.int .i64 1))]) zmg rfl stt82 (.cons (i:=0) (o_t 37 rfl) rfl (zw (zk _ _ _)) (.cons (i:=1) (o_i (k:=.i64) (by decide)) rfl (zi (zk _ _ _) rfl) .nil)) rfl rfl) rfl rfl hL fun a s e_ hL=>?_;refine zhe (L':=[(0,Pd.ptr Efinder (d,some g)),(5,Pd.rep En.str (keyS t)),(8,Pd.map En.str kvStr En.SBranch s0.w.heap.size (some g8) (zgb [] (keyS t) (t,1))),(999902,Pd.mapc En.str kvStr Efmp g xs)]) hL (o_t 34 rfl) (o_t 35 rfl) (o_t 38 rfl) Tryz.underlying162 (zey Tryz.underlying9) (.inl rfl) rfl rfl
   (.cons (t:=0) rfl (fun _ h_=>h_.elim) (.cons (t:=5) rfl (fun _ h_=>h_.elim) (.turn (t:=8) rfl (.cons (t:=999902) rfl (no_o hgs hng) .nil)))) fun s hL=>?_
  refine en' ?_;show K9 a s.w;refine hK9 _ _ ?_;refine wp_seq_k fun K10 hK10=>?_;refine rg ?_;obtain ⟨s2,hw2,hL⟩:=hL.freezem (L':=[(0,Pd.ptr Efinder (d,some g)),(5,Pd.rep En.str (keyS t)),(999902,Pd.mapc En.str kvStr Efmp g xs)]) 8 rfl (.cons (t:=0) rfl (fun _ h_=>h_.elim) (.cons (t:=5) rfl (fun _ h_=>h_.elim) (.cons (t:=999902) rfl (no_o hgs hng) .nil)));rw [← hw2];clear hw2;generalize s2=s at *;refine st 39 (zo (o_t 0 rfl) rfl rfl) rfl rfl hL fun a s e_ hL=>?_;refine st 40 (t_nc (o_t 39 rfl) zlt rfl rfl) rfl rfl hL fun a s e_ hL=>?_;refine st 41 (zje (off:=1) (o_t 40 rfl) Tryz.underlying161 rfl (zn (z6 _ _) rfl) rfl tyMap rfl rfl) rfl rfl hL fun a s e_ hL=>?_;refine st 42 (zb8 tyMap (o_t 41 rfl) rfl rfl) rfl rfl hL fun a s e_ hL=>?_;refine st 43 (zo (o_t 5 rfl) rfl rfl) rfl rfl hL fun a s e_ hL=>?_;refine st 44 (zo (o_t 8 rfl) rfl rfl) rfl rfl hL fun a s e_ hL=>?_;refine st_mputc (m:=999902) (L':=[(8,Pd.rep Efmp (zgb [] (keyS t) (t,1)))]) hL rfl (.inl rfl) (o_t 42 rfl) (o_t 43 rfl) (o_t 44 rfl) Tryz.underlying159 (zey Tryz.underlying9) (.inl rfl) rfl rfl (.cons (t:=8) rfl (fun _ h_=>h_.elim) .nil) fun s hL=>?_;refine en' ?_;show K10 a s.w;refine hK10 _ _ ?_;refine wp_seq_k fun K11 hK11=>?_;refine rg ?_;refine st 45 (zo (o_t 8 rfl) rfl rfl) rfl rfl hL fun a s e_ hL=>?_;refine st 4 (zy (o_t 45 rfl) rfl rfl) rfl rfl hL fun a s e_ hL=>?_;refine en' ?_;show K11 a s.w;refine hK11 _ _ ?_;exact wp_ret (retc (zgb [] (keyS t) (t,1),zgb xs (keyS t) (zgb [] (keyS t) (t,1))) ⟨hgood,hxs.put hgood⟩ rfl hL rfl rfl)
 refine wp_skip ?_;show K7 a s.w;refine hK7 _ _ ?_;have hrd:rdy d t=false:=hb_;have hopn:=hv.opn hd hrd;obtain ⟨ls,hls,hlf⟩:∃ls,(opn d t).mapM (lv d h)=some ls∧ls.flatten=l:=by
  unfold lv at hl;rw [if_neg (by rw [hrd];simp)] at hl;exact Option.map_eq_some_iff.1 hl
 have hlen2:=opn_len (d:=d) t;have hlsl:ls.length=(opn d t).length:=zn1 hls;refine wp_seq_k fun K12 hK12=>?_;refine wp_seq_k fun K13 hK13=>?_;refine rg ?_;refine st 46 (zo (o_t 0 rfl) rfl rfl) rfl rfl hL fun a s e_ hL=>?_;refine st 47 (t_nc (o_t 46 rfl) zlt rfl rfl) rfl rfl hL fun a s e_ hL=>?_;refine st 48 (zje (off:=0) (o_t 47 rfl) Tryz.underlying161 rfl (zbk (z6 _ _)) rfl ty24 rfl rfl) rfl rfl hL fun a s e_ hL=>?_;refine st 49 (zb8 ty24 (o_t 48 rfl) rfl rfl) rfl rfl hL fun a s e_ hL=>?_;refine st 50 (zo (o_t 1 rfl) rfl rfl) rfl rfl hL fun a s e_ hL=>?_;refine st 51 (ze7 (ztb (ztc hd hv.form hrd (by omega) hd0)).frz (xs:=[.tmp 49,.tmp 50]) (.cons (o_t 49 rfl) (.cons (o_t 50 rfl) .nil)) rfl rfl) rfl rfl hL fun a s e_ hL=>?_;refine st 52 (znk (o_t 51 rfl) Tryz.underlying25 rfl rfl) rfl rfl hL fun a s e_ hL=>?_;refine st 53 (zo (o_i (k:=.i64) (by decide)) rfl rfl) rfl rfl hL fun a s e_ hL=>?_;refine en' ?_;show K13 a s.w;refine hK13 _ _ ?_;refine wp_block ?_;have hg8s:=hng g8 rfl;have J:∀(a:Act) (s:St) (out:List (Str × SBranch)) (ys:List (Str × List (Str × SBranch))),Has (fun b=>some g=some b) 88 s0 a s [(0,Pd.ptr Efinder (d,some g)),(5,Pd.rep En.str (keyS t)),(8,Pd.map En.str kvStr En.SBranch s0.w.heap.size (some g8) out),(999902,Pd.mapc En.str kvStr Efmp g ys)] →
   zmc (fun u=>l.count u) out→InvS d ys→K12 a s.w:=by
  intro a s out ys hL hout hys;have hgood:GoodM d t out:=⟨h+1,l,hl,hout⟩;refine hK12 _ _ ?_;refine wp_seq_k fun K19 hK19=>?_;refine rg ?_;obtain ⟨s2,hw2,hL⟩:=hL.freezem (L':=[(0,Pd.ptr Efinder (d,some g)),(5,Pd.rep En.str (keyS t)),(999902,Pd.mapc En.str kvStr Efmp g ys)]) 8 rfl (.cons (t:=0) rfl (fun _ h_=>h_.elim) (.cons (t:=5) rfl (fun _ h_=>h_.elim) (.cons (t:=999902) rfl (no_o hgs hng) .nil)));rw [← hw2];clear hw2;generalize s2=s at *;refine st 81 (zo (o_t 0 rfl) rfl rfl) rfl rfl hL fun a s e_ hL=>?_;refine st 82 (t_nc (o_t 81 rfl) zlt rfl rfl) rfl rfl hL fun a s e_ hL=>?_;refine st 83 (zje (off:=1) (o_t 82 rfl) Tryz.underlying161 rfl (zn (z6 _ _) rfl) rfl tyMap rfl rfl) rfl rfl hL fun a s e_ hL=>?_;refine st 84 (zb8 tyMap (o_t 83 rfl) rfl rfl) rfl rfl hL fun a s e_ hL=>?_;refine st 85 (zo (o_t 5 rfl) rfl rfl) rfl rfl hL fun a s e_ hL=>?_;refine st 86 (zo (o_t 8 rfl) rfl rfl) rfl rfl hL fun a s e_ hL=>?_;refine st_mputc (m:=999902) (L':=[(8,Pd.rep Efmp out)]) hL rfl (.inl rfl) (o_t 84 rfl) (o_t 85 rfl) (o_t 86 rfl) Tryz.underlying159 (zey Tryz.underlying9) (.inl rfl) rfl rfl (.cons (t:=8) rfl (fun _ h_=>h_.elim) .nil) fun s hL=>?_;refine en' ?_;show K19 a s.w;refine hK19 _ _ ?_;refine wp_seq_k fun K20 hK20=>?_;refine rg ?_;refine st 87 (zo (o_t 8 rfl) rfl rfl) rfl rfl hL fun a s e_ hL=>?_;refine st 4 (zy (o_t 87 rfl) rfl rfl) rfl rfl hL fun a s e_ hL=>?_;refine en' ?_;show K20 a s.w;refine hK20 _ _ ?_;exact wp_ret (retc (out,zgb ys (keyS t) out) ⟨hgood,hys.put hgood⟩ rfl hL rfl rfl)
 refine lpg (fun k a s=>∃(i:Nat) (out:List (Str × SBranch)) (ys:List (Str × List (Str × SBranch))),i+k=(opn d t).length+1∧Has (fun b=>some g=some b) 88 s0 a s [(0,Pd.ptr Efinder (d,some g)),(5,Pd.rep En.str (keyS t)),(8,Pd.map En.str kvStr En.SBranch s0.w.heap.size (some g8) out),(51,Pd.rep (En.slice (En.slice En.SItem)) (opn d t)),(52,Pd.rep (En.int .i64) ((opn d t).length:Int)),(53,Pd.rep (En.int .i64) (i:Int)),(999902,Pd.mapc En.str kvStr Efmp g ys)] ∧
   zmc (fun u=>(ls.take i).flatten.count u) out∧InvS d ys) ((opn d t).length+1) ⟨0,[],xs,by omega,hL.keep (.cons (t:=0) rfl (fun _ h_=>h_.elim) (.cons (t:=5) rfl (fun _ h_=>h_.elim) (.cons (t:=8) rfl (fun _ _ h_=>h_) (.cons (t:=51) rfl (fun _ h_=>h_.elim) (.cons (t:=52) rfl (fun _ h_=>h_.elim) (.cons (t:=53) rfl (fun _ h_=>h_.elim) (.cons (t:=999902) rfl (fun _ _ h_=>h_) .nil))))))),zmc.nil,hxs⟩ ?_
 rintro k a s ⟨i,out,ys,hik,hL,hout,hys⟩ KL hKL;refine wp_seq_k fun K14 hK14=>?_;refine rg ?_;refine st 54 (znj (o_t 53 rfl) (o_t 52 rfl) rfl rfl) rfl rfl hL fun a s e_ hL=>?_;refine en' ?_;show K14 a s.w;refine hK14 _ _ ?_;refine wp_seq_k fun K15 hK15=>?_;refine cnd hL rfl (fun hb2_=>?_) (fun hb2_=>?_)
 case refine_2=>
  refine wp_exit ?_;have hi:(opn d t).length≤i:=by have:=df hb2_;omega
  refine J a s out ys (hL.keep (.cons (t:=0) rfl (fun _ h_=>h_.elim) (.cons (t:=5) rfl (fun _ h_=>h_.elim) (.cons (t:=8) rfl (fun _ _ h_=>h_) (.cons (t:=999902) rfl (fun _ _ h_=>h_) .nil))))) ?_ hys;rw [List.take_of_length_le (by omega),hlf] at hout;exact hout
 refine wp_skip ?_;show K15 a s.w;refine hK15 _ _ ?_;have hi:i<(opn d t).length:=by have:=dt hb2_;omega
 have hti:at? (opn d t) (i:Int)=some (opn d t)[i]:=by rw [zbw];simp [hi]
 have hmem:(opn d t)[i]∈opn d t:=List.getElem_mem hi;obtain ⟨li,hli,hlsi⟩:=zsz hls hi;refine wp_seq_k fun K18 hK18=>?_;refine wp_block ?_;refine wp_seq_k fun K21 hK21=>?_;refine rg ?_;refine st 55 (zmi (o_t 51 rfl) (o_t 53 rfl) hti Tryz.underlying25 zrk rfl rfl) rfl rfl hL fun a s e_ hL=>?_;refine st 56 (zb8 zrk (o_t 55 rfl) rfl rfl) rfl rfl hL fun a s e_ hL=>?_;refine st 10 (zy (o_t 56 rfl) rfl rfl) rfl rfl hL fun a s e_ hL=>?_;refine en' ?_;show K21 a s.w;refine hK21 _ _ ?_;refine wp_seq_k fun K22 hK22=>?_;refine rg ?_;refine st 57 (zo (o_t 0 rfl) rfl rfl) rfl rfl hL fun a s e_ hL=>?_;refine st 58 (zo (o_t 10 rfl) rfl rfl) rfl rfl hL fun a s e_ hL=>?_;refine st_callc (L':=[(0,Pd.ptr Efinder (d,some g)),(5,Pd.rep En.str (keyS t)),(8,Pd.map En.str kvStr En.SBranch s0.w.heap.size (some g8) out),(51,Pd.rep (En.slice (En.slice En.SItem)) (opn d t)),(52,Pd.rep (En.int .i64) ((opn d t).length:Int)),(53,Pd.rep (En.int .i64) (i:Int))]) 59 999902 hL (ih _ li hli (hopn _ hmem) ys hys) rfl (.inl rfl) (zs:=[.tmp 57,.tmp 58]) (.cons (o_t 57 rfl) (.cons (o_t 58 rfl) .nil)) rfl rfl rfl rfl
  (.cons (t:=0) rfl (fun _ h_=>h_.elim) (.cons (t:=5) rfl (fun _ h_=>h_.elim) (.cons (t:=8) rfl (no_g hgs hng) (.cons (t:=51) rfl (fun _ h_=>h_.elim) (.cons (t:=52) rfl (fun _ h_=>h_.elim) (.cons (t:=53) rfl (fun _ h_=>h_.elim) .nil)))))) fun a s im him hL=>?_
 obtain ⟨m,ys2⟩:=im;obtain ⟨⟨hh,l2,hl2,hm⟩,hys2⟩:=him;simp only at hl2 hm hys2;have hl2e:l2=li:=by
  have h1:=zjq (Nat.le_max_left hh h) hl2;have h2:=zjq (Nat.le_max_right hh h) hli;rw [h1] at h2;exact Option.some.inj h2
 subst hl2e;have hg8lt:=(znb (hL.get 8 rfl) g8 rfl).2;refine zrm 60 hL (o_t 59 rfl) Tryz.underlying162 rfl rfl rfl rfl fun a s r hr hL=>?_;have hr8:g8<r:=Nat.lt_of_lt_of_le hg8lt hr;refine en' ?_;show K22 a s.w;refine hK22 _ _ ?_;refine wp_block ?_
 let f:=fun u=>(ls.take i).flatten.count u
 let c:=fun u=>l2.count u
 have J2:∀(a:Act) (s:St) (out:List (Str × SBranch)),Has (fun b=>some g=some b) 88 s0 a s [(0,Pd.ptr Efinder (d,some g)),(5,Pd.rep En.str (keyS t)),(8,Pd.map En.str kvStr En.SBranch s0.w.heap.size (some g8) out),(51,Pd.rep (En.slice (En.slice En.SItem)) (opn d t)),(52,Pd.rep (En.int .i64) ((opn d t).length:Int)),(53,Pd.rep (En.int .i64) (i:Int)),(999902,Pd.mapc En.str kvStr Efmp g ys2)] →
   zmc (fun u=>f u+c u) out→K18 a s.w:=by
  intro a s out hL hout;refine hK18 _ _ ?_;refine rg ?_;refine st 80 (znm (o_t 53 rfl) (o_i (k:=.i64) (by decide)) (zh (by omega) (by omega)) rfl rfl) rfl rfl hL fun a s e_ hL=>?_;refine st 53 (zo (o_t 80 rfl) rfl rfl) rfl rfl hL fun a s e_ hL=>?_;refine en' ?_;refine hKL (k-1) a s (by omega) ⟨i+1,out,ys2,by omega,hL.keep (.cons (t:=0) rfl (fun _ h_=>h_.elim) (.cons (t:=5) rfl (fun _ h_=>h_.elim) (.cons (t:=8) rfl (fun _ _ h_=>h_) (.cons (t:=51) rfl (fun _ h_=>h_.elim) (.cons (t:=52) rfl (fun _ h_=>h_.elim) (.cons (t:=53) rfl (fun _ h_=>h_.elim) (.cons (t:=999902) rfl (fun _ _ h_=>h_) .nil))))))), ?_,hys2⟩;refine hout.congr fun u=>?_;rw [take_flat hlsi,List.count_append]
 refine lpg (fun k a s=>∃(rem:List (Str × SBranch)) (cur:Option (Str × SBranch)) (out:List (Str × SBranch)),rem.length+1=k∧Has (fun b=>some g=some b) 88 s0 a s [(0,Pd.ptr Efinder (d,some g)),(5,Pd.rep En.str (keyS t)),(8,Pd.map En.str kvStr En.SBranch s0.w.heap.size (some g8) out),(51,Pd.rep (En.slice (En.slice En.SItem)) (opn d t)),(52,Pd.rep (En.int .i64) ((opn d t).length:Int)),(53,Pd.rep (En.int .i64) (i:Int)),(60,Pd.iter En.str kvStr En.SBranch s0.w.heap.size r rem cur),(999902,Pd.mapc En.str kvStr Efmp g ys2)] ∧
   Left c rem∧zmc (cnt f c rem) out) (m.length+1) ⟨m,none,out,rfl,hL.keep (.cons (t:=0) rfl (fun _ h_=>h_.elim) (.cons (t:=5) rfl (fun _ h_=>h_.elim) (.cons (t:=8) rfl (fun _ _ h_=>h_) (.cons (t:=51) rfl (fun _ h_=>h_.elim) (.cons (t:=52) rfl (fun _ h_=>h_.elim) (.cons (t:=53) rfl (fun _ h_=>h_.elim) (.cons (t:=60) rfl (fun _ _ h_=>h_) (.cons (t:=999902) rfl (fun _ _ h_=>h_) .nil)))))))),hm.left,hout.congr fun u=>by rw [cnt_start hm (.refl _)]⟩ ?_
 rintro k2 a s ⟨rem,cur,out,hrk,hL,hleft,hout⟩ KM hKM;refine wp_seq_k fun K23 hK23=>?_;refine rg ?_;have hrs0:s0.w.heap.size≤r:=(hL.get 60 rfl).2.1;refine st_next (L':=[(0,Pd.ptr Efinder (d,some g)),(5,Pd.rep En.str (keyS t)),(8,Pd.map En.str kvStr En.SBranch s0.w.heap.size (some g8) out),(51,Pd.rep (En.slice (En.slice En.SItem)) (opn d t)),(52,Pd.rep (En.int .i64) ((opn d t).length:Int)),(53,Pd.rep (En.int .i64) (i:Int)),(999902,Pd.mapc En.str kvStr Efmp g ys2)]) 61 hL (x:=60) rfl rfl rfl rfl rfl (by decide)
  (.cons (t:=0) rfl (fun _ h_=>h_.elim) (.cons (t:=5) rfl (fun _ h_=>h_.elim) (.cons (t:=8) rfl (fun b hb e=>by cases hb;cases e;omega) (.cons (t:=51) rfl (fun _ h_=>h_.elim) (.cons (t:=52) rfl (fun _ h_=>h_.elim) (.cons (t:=53) rfl (fun _ h_=>h_.elim) (.cons (t:=999902) rfl (fun b hb e=>by cases hb;cases e;omega) .nil))))))) (fun a hrem hL=>?_) (fun a s p rem' hp hL=>?_)
 ·subst hrem;refine st 62 (t_nx (o_t 61 rfl) rfl rfl) rfl rfl hL fun a s e_ hL=>?_;refine en' ?_;show K23 a s.w;refine hK23 _ _ ?_;refine wp_seq_k fun K24 hK24=>?_;refine cnd hL rfl (fun hb3_=>by cases hb3_) (fun _=>?_);refine wp_exit ?_;refine J2 a s out (hL.keep (.cons (t:=0) rfl (fun _ h_=>h_.elim) (.cons (t:=5) rfl (fun _ h_=>h_.elim) (.cons (t:=8) rfl (fun _ _ h_=>h_) (.cons (t:=51) rfl (fun _ h_=>h_.elim) (.cons (t:=52) rfl (fun _ h_=>h_.elim) (.cons (t:=53) rfl (fun _ h_=>h_.elim) (.cons (t:=999902) rfl (fun _ _ h_=>h_) .nil)))))))) (hout.congr fun u=>by rw [cnt_nil])
 have hleft2:=hleft.perm hp;have hout2:zmc (cnt f c (p::rem')) out:=hout.congr fun u=>by rw [cnt_perm hp]
 obtain ⟨e1,e2,e3⟩:=hleft2.ent p (by simp);have hp2:1≤p.2.2∧p.2.2≤2:=by rw [e3];unfold sat;omega
 have hmg:0≤(zex out p.1 (([],0):SBranch)).2∧(zex out p.1 (([],0):SBranch)).2≤2:=by rw [e1,hout2.get];unfold sat;omega
 refine st 62 (t_nx (o_t 61 rfl) rfl rfl) rfl rfl hL fun a s e_ hL=>?_;refine en' ?_;show K23 a s.w;refine hK23 _ _ ?_;refine wp_seq_k fun K24 hK24=>?_;refine cnd hL rfl (fun _=>?_) (fun hb3_=>by cases hb3_);refine wp_skip ?_;show K24 a s.w;refine hK24 _ _ ?_;refine wp_block ?_;refine wp_seq_k fun K25 hK25=>?_;refine rg ?_;refine st 63 (t_entry (o_t 60 rfl) (zey Tryz.underlying9) rfl rfl) rfl rfl hL fun a s e_ hL=>?_;refine st 64 (t_ext0 (o_t 63 rfl) rfl rfl) rfl rfl hL fun a s e_ hL=>?_;refine st 65 (zog (o_t 63 rfl) rfl rfl) rfl rfl hL fun a s e_ hL=>?_;have l8:=(znb (hL.get 8 rfl) g8 rfl).2;have lr:=hL.ilt 60 rfl r rfl;have lg:g<s.w.heap.size:=Nat.lt_of_lt_of_le hgs hL.ent.mv.size;refine z8 En.SBranch (z:=(([],0):SBranch)) 12 hL zmg rfl rfl rfl rfl fun a s g12 hg12 hL=>?_;refine st 11 (zy (o_t 64 rfl) rfl rfl) rfl rfl hL fun a s e_ hL=>?_;refine zm7 (L':=[(0,Pd.ptr Efinder (d,some g)),(5,Pd.rep En.str (keyS t)),(8,Pd.map En.str kvStr En.SBranch s0.w.heap.size (some g8) out),(11,Pd.rep En.str p.1),(51,Pd.rep (En.slice (En.slice En.SItem)) (opn d t)),(52,Pd.rep (En.int .i64) ((opn d t).length:Int)),(53,Pd.rep (En.int .i64) (i:Int)),(60,Pd.iter En.str kvStr En.SBranch s0.w.heap.size r rem' (some p)),(999902,Pd.mapc En.str kvStr Efmp g ys2)]) 12 hL rfl (o_t 65 rfl) ty82 rfl rfl rfl
  (.cons (t:=0) rfl (fun _ h_=>h_.elim) (.cons (t:=5) rfl (fun _ h_=>h_.elim) (.cons (t:=8) rfl (fun b hb e=>by cases hb;cases e;omega) (.cons (t:=11) rfl (fun _ h_=>h_.elim) (.cons (t:=51) rfl (fun _ h_=>h_.elim) (.cons (t:=52) rfl (fun _ h_=>h_.elim) (.cons (t:=53) rfl (fun _ h_=>h_.elim) (.cons (t:=60) rfl (fun b hb e=>by cases hb;cases e;omega) (.cons (t:=999902) rfl (fun b hb e=>by cases hb;cases e;omega) .nil))))))))) fun s hL=>?_
 refine en' ?_;show K25 a s.w;refine hK25 _ _ ?_;refine wp_seq_k fun K26 hK26=>?_;refine rg ?_;refine st 66 (zo (o_t 8 rfl) rfl rfl) rfl rfl hL fun a s e_ hL=>?_;refine st 67 (zo (o_t 11 rfl) rfl rfl) rfl rfl hL fun a s e_ hL=>?_;refine st 68 (zqs (z:=(([],0):SBranch)) (o_t 66 rfl) (o_t 67 rfl) Tryz.underlying162 (zey Tryz.underlying9) tyvBranch rfl rfl) rfl rfl hL fun a s e_ hL=>?_;have l8:=(znb (hL.get 8 rfl) g8 rfl).2;have lr:=hL.ilt 60 rfl r rfl;have lg:g<s.w.heap.size:=Nat.lt_of_lt_of_le hgs hL.ent.mv.size;have l12:=hL.blt 12 rfl g12 rfl;refine z8 En.SBranch (z:=(([],0):SBranch)) 13 hL zmg rfl rfl rfl rfl fun a s g13 hg13 hL=>?_;refine zm7 (L':=[(0,Pd.ptr Efinder (d,some g)),(5,Pd.rep En.str (keyS t)),(8,Pd.map En.str kvStr En.SBranch s0.w.heap.size (some g8) out),(11,Pd.rep En.str p.1),(12,Pd.box En.SBranch s0.w.heap.size g12 p.2),(51,Pd.rep (En.slice (En.slice En.SItem)) (opn d t)),(52,Pd.rep (En.int .i64) ((opn d t).length:Int)),(53,Pd.rep (En.int .i64) (i:Int)),(60,Pd.iter En.str kvStr En.SBranch s0.w.heap.size r rem' (some p)),(999902,Pd.mapc En.str kvStr Efmp g ys2)]) 13 hL rfl (o_t 68 rfl) ty82 rfl rfl rfl
  (.cons (t:=0) rfl (fun _ h_=>h_.elim) (.cons (t:=5) rfl (fun _ h_=>h_.elim) (.cons (t:=8) rfl (fun b hb e=>by cases hb;cases e;omega) (.cons (t:=11) rfl (fun _ h_=>h_.elim) (.cons (t:=12) rfl (fun b hb e=>by cases hb;cases e;omega) (.cons (t:=51) rfl (fun _ h_=>h_.elim) (.cons (t:=52) rfl (fun _ h_=>h_.elim) (.cons (t:=53) rfl (fun _ h_=>h_.elim) (.cons (t:=60) rfl (fun b hb e=>by cases hb;cases e;omega) (.cons (t:=999902) rfl (fun b hb e=>by cases hb;cases e;omega) .nil)))))))))) fun s hL=>?_
 refine en' ?_;show K26 a s.w;refine hK26 _ _ ?_;refine rg ?_;refine st 69 (zo (o_t 8 rfl) rfl rfl) rfl rfl hL fun a s e_ hL=>?_;refine st 70 (zo (o_t 11 rfl) rfl rfl) rfl rfl hL fun a s e_ hL=>?_;refine st 71 (znl (off:=0) (o_t 12 rfl) Tryz.underlying82 rfl (zbk (z6 _ _)) rfl zrk rfl rfl) rfl rfl hL fun a s e_ hL=>?_;refine st 72 (zcm zrk (o_t 71 rfl) rfl rfl) rfl rfl hL fun a s e_ hL=>?_;refine st 73 (znl (off:=1) (o_t 13 rfl) Tryz.underlying82 rfl (zn (z6 _ _) rfl) rfl ty3 rfl rfl) rfl rfl hL fun a s e_ hL=>?_;refine st 74 (zcm ty3 (o_t 73 rfl) rfl rfl) rfl rfl hL fun a s e_ hL=>?_;refine st 75 (znl (off:=1) (o_t 12 rfl) Tryz.underlying82 rfl (zn (z6 _ _) rfl) rfl ty3 rfl rfl) rfl rfl hL fun a s e_ hL=>?_;refine st 76 (zcm ty3 (o_t 75 rfl) rfl rfl) rfl rfl hL fun a s e_ hL=>?_;refine st 77 (znm (o_t 74 rfl) (o_t 76 rfl) (zh (by omega) (by omega)) rfl rfl) rfl rfl hL fun a s e_ hL=>?_;refine st 78 (t_min (o_t 77 rfl) (o_i (k:=.i64) (by decide)) rfl rfl) rfl rfl hL fun a s e_ hL=>?_;refine st 79 (zbj (x:=((p.2.1,min ((zex out p.1 (([],0):SBranch)).2+p.2.2) 2):SBranch)) (ps:=[(0,.tmp 72),(1,.tmp 78)]) zmg rfl stt82 (.cons (i:=0) (o_t 72 rfl) rfl (zw (zk _ _ _)) (.cons (i:=1) (o_t 78 rfl) rfl (zi (zk _ _ _) rfl) .nil)) rfl rfl) rfl rfl hL fun a s e_ hL=>?_;refine zhe (L':=[(0,Pd.ptr Efinder (d,some g)),(5,Pd.rep En.str (keyS t)),(8,Pd.map En.str kvStr En.SBranch s0.w.heap.size (some g8) (zgb out p.1 (p.2.1,min ((zex out p.1 (([],0):SBranch)).2+p.2.2) 2))),(51,Pd.rep (En.slice (En.slice En.SItem)) (opn d t)),(52,Pd.rep (En.int .i64) ((opn d t).length:Int)),(53,Pd.rep (En.int .i64) (i:Int)),(60,Pd.iter En.str kvStr En.SBranch s0.w.heap.size r rem' (some p)),(999902,Pd.mapc En.str kvStr Efmp g ys2)]) hL (o_t 69 rfl) (o_t 70 rfl) (o_t 79 rfl) Tryz.underlying162 (zey Tryz.underlying9) (.inl rfl) rfl rfl
  (.cons (t:=0) rfl (fun _ h_=>h_.elim) (.cons (t:=5) rfl (fun _ h_=>h_.elim) (.turn (t:=8) rfl (.cons (t:=51) rfl (fun _ h_=>h_.elim) (.cons (t:=52) rfl (fun _ h_=>h_.elim) (.cons (t:=53) rfl (fun _ h_=>h_.elim) (.cons (t:=60) rfl (fun b hb e=>by cases hb;cases e;omega) (.cons (t:=999902) rfl (fun b hb e=>by cases hb;cases e;omega) .nil)))))))) fun s hL=>?_
 refine en' ?_;have hpl:=hp.length_eq;simp only [List.length_cons] at hpl;exact hKM (k2-1) a s (by omega) ⟨rem',some p,_,by omega,hL,hleft2.tail.1,cnt_step hleft2 hout2⟩
theorem find_ok {d:List SNode} (hd:ROk d) (hk:DOk d) (hl4:d.length≤400) (g:Nat) (hd0:∃n,at? d 0=some n):∀(h:Nat) (t:List SItem) (l:List (List SItem)),lv d h t=some l→Vs d 400 t→∀xs,InvS d xs→FndOk d g t xs
 | 0,t,l,hl,_,_,_=>by simp [lv] at hl
 | h+1,t,l,hl,hv,xs,hxs=>find_step hd hk hl4 g (find_ok hd hk hl4 g hd0 h) hd0 hl hv hxs
theorem lv_vs {d:List SNode} (hd:ROk d) {n0:Nat}:∀(h:Nat) (t:List SItem) (l:List (List SItem)),lv d h t=some l→Vs d n0 t→∀u∈l,Vs d n0 u∧rdy d u=true
 | 0,t,l,hl,_=>by simp [lv] at hl
 | h+1,t,l,hl,hv=>by
  intro u hu;unfold lv at hl
  by_cases hr:rdy d t=true
  ·rw [if_pos hr] at hl;cases hl;rw [List.mem_singleton.1 hu];exact ⟨hv,hr⟩
  ·rw [if_neg hr] at hl;obtain ⟨ls,h1,h2⟩:=Option.map_eq_some_iff.1 hl;subst h2;obtain ⟨l',hl',hu'⟩:=List.mem_flatten.1 hu;obtain ⟨i,hi⟩:=List.getElem?_of_mem hl';have hil:i<(opn d t).length:=by rw [← zn1 h1];exact (List.getElem?_eq_some_iff.1 hi).1
   obtain ⟨b,hb1,hb2⟩:=zsz h1 hil;rw [hi] at hb2;cases hb2;exact lv_vs hd h _ _ hb1 (hv.opn hd (by simpa using hr) _ (List.getElem_mem hil)) u hu'
theorem zh2 {d_:SDesc} {s_:List SItem} {r_:List SBranch} (hh:zf0 d_ s_ r_):Fn Tryz.prog 89 [Pd.rep En.SDesc d_,Pd.rep (En.slice En.SItem) s_] (Ro En.SBranch 82 r_):=by
 obtain ⟨hd,hk,hl4,hne,hf,hs4,hr31,h,l,hl,hcan⟩:=hh;have hv:Vs d_ 400 s_:=Vs.start hf hs4;refine zbi Tryz.func89 rfl Tryz.ntmps89 (by rfl) (by simp) fun s0 a hL=>?_;refine wp_seq_k fun K0 hK0=>?_;refine rg ?_;refine st 2 (zpv (o_t 0 rfl) rfl rfl) rfl rfl hL fun a s e_ hL=>?_;refine st 4 (zy (q:=Pd.any) (fun _ _ _ _ _ _=>trivial) rfl rfl) rfl rfl hL fun a s e_ hL=>?_;refine en' ?_;show K0 a s.w;refine hK0 _ _ ?_;refine wp_seq_k fun K1 hK1=>?_;refine rg ?_;refine st 9 (zb8 ty24 (o_t 2 rfl) rfl rfl) rfl rfl hL fun a s e_ hL=>?_;refine zj8 10 En.str kvStr Efmp hL rfl rfl rfl rfl fun a s g hg hL=>?_;have hgN:s0.w.heap.size≤g:=(znb (hL.get 10 rfl) g rfl).1;have hL:=hL.mapc 10 999902 rfl;refine st 11 (zbj (x:=((d_,some g):SDesc × Option Nat)) (ps:=[(0,.tmp 9),(1,.tmp 10)]) tyzFinder rfl sttFinder (.cons (i:=0) (o_t 9 rfl) rfl (zw (zk _ _ _)) (.cons (i:=1) (o_t 10 rfl) rfl (zi (zk _ _ _) rfl) .nil)) rfl rfl) rfl rfl hL fun a s e_ hL=>?_;refine st 12 (zpv (o_t 11 rfl) rfl rfl) rfl rfl hL fun a s e_ hL=>?_;refine st 5 (zy (o_t 12 rfl) rfl rfl) rfl rfl hL fun a s e_ hL=>?_;refine en' ?_;show K1 a s.w;refine hK1 _ _ ?_;refine wp_seq_k fun K2 hK2=>?_;refine rg ?_;refine st 6 (zy (o_nil (E:=En.SBranch) (N:=s0.w.heap.size) (te:=82)) rfl rfl) rfl rfl hL fun a s e_ hL=>?_;refine en' ?_;show K2 a s.w;refine hK2 _ _ ?_;refine wp_seq_k fun K3 hK3=>?_;refine wp_seq_k fun K4 hK4=>?_;refine rg ?_;refine st 13 (zo (o_t 5 rfl) rfl rfl) rfl rfl hL fun a s e_ hL=>?_;refine st 14 (zo (o_t 1 rfl) rfl rfl) rfl rfl hL fun a s e_ hL=>?_
 have hd0:∃n,at? d_ 0=some n:=by
  cases d_ with
  | nil=>exact absurd rfl hne
  | cons n d=>exact ⟨n,rfl⟩
 refine st_callc (L':=[(6,Pd.row En.SBranch s0.w.heap.size 82 none [])]) 15 999902 hL (find_ok hd hk hl4 g hd0 h s_ l hl hv [] (InvS.nil _)) rfl (.inr hgN) (zs:=[.tmp 13,.tmp 14]) (.cons (o_t 13 rfl) (.cons (o_t 14 rfl) .nil)) rfl rfl rfl rfl
  (.cons (t:=6) rfl no_own .nil) fun a s im him hL=>?_
 obtain ⟨m,ys2⟩:=im;obtain ⟨⟨h2,l2,hl2,hm⟩,hys2⟩:=him;simp only at hl2 hm hys2;have hl2e:l2=l:=by
  have h3:=zjq (Nat.le_max_left h2 h) hl2;have h4:=zjq (Nat.le_max_right h2 h) hl;rw [h3] at h4;exact Option.some.inj h4
 subst hl2e;refine zrm 16 hL (o_t 15 rfl) Tryz.underlying162 rfl rfl rfl rfl fun a s r hr hL=>?_;refine en' ?_;show K4 a s.w;refine hK4 _ _ ?_;refine wp_block ?_;have J:∀(a:Act) (s:St) (og:Option Nat) (out:List SBranch),Has N0 28 s0 a s [(6,Pd.row En.SBranch s0.w.heap.size 82 og out)]→out.Perm (m.map (·.2))→K3 a s.w:=by
  intro a s og out hL hp;obtain ⟨hnd,hc2⟩:=hm.can hp;have hrr:r_=srtB out:=hcan.uniq hc2;have hlen:out.length≤2147483648:=by
   have:=(zg3 out).length_eq;rw [hrr] at hr31;omega
  have hsrt:zhg out r_:=by
   refine ⟨hnd,fun b hb=>?_,hlen,hrr⟩;obtain ⟨p,hp1,hp2⟩:=List.mem_map.1 (hp.mem_iff.1 hb);obtain ⟨k,b'⟩:=p;simp only at hp2;subst hp2;have hc:=((hm.mem k _).1 hp1).2.1;have hmem:b'.1∈l2:=by
    rcases Nat.eq_zero_or_pos (l2.count b'.1) with h0 | h0
    ·exact absurd h0 hc
    ·exact List.count_pos_iff.1 h0
   have:=(lv_vs hd h s_ l2 hl hv _ hmem).1.len;omega
  refine hK3 _ _ ?_;refine wp_seq_k fun K7 hK7=>?_;refine rg ?_;refine st 25 (zo (o_t 6 rfl) rfl rfl) rfl rfl hL fun a s e_ hL=>?_;refine zlj (L':=[(6,Pd.row En.SBranch s0.w.heap.size 82 og r_)]) 26 (fun v0=>zjh v0 hsrt) hL (o_t 25 rfl) (zs:=[.func 117]) (.cons o_isf .nil) rfl rfl rfl rfl (.turn (t:=6) rfl .nil) fun a s hL=>?_;refine en' ?_;show K7 a s.w;refine hK7 _ _ ?_;refine wp_seq_k fun K8 hK8=>?_;refine rg ?_;refine st 27 (zo (o_t 6 rfl) rfl rfl) rfl rfl hL fun a s e_ hL=>?_;refine st 4 (zy (o_t 27 rfl) rfl rfl) rfl rfl hL fun a s e_ hL=>?_;refine en' ?_;show K8 a s.w;refine hK8 _ _ ?_;exact wp_ret (zet rfl hL rfl)
 have hmlen:m.length≤2147483648:=by
  have hp:=(hm.can (List.Perm.refl (m.map (·.2)))).2;have e:=hcan.uniq hp;have:=(zg3 (m.map (·.2))).length_eq;rw [e] at hr31;rw [List.length_map] at this;omega
 refine lpg (fun k a s=>∃(rem:List (Str × SBranch)) (cur:Option (Str × SBranch)) (og:Option Nat) (out:List SBranch),rem.length+1=k∧Has N0 28 s0 a s [(6,Pd.row En.SBranch s0.w.heap.size 82 og out),(16,Pd.iter En.str kvStr En.SBranch s0.w.heap.size r rem cur)]∧(∀b,og=some b→¬ some r=some b)∧(out++rem.map (·.2)).Perm (m.map (·.2)))
  (m.length+1) ⟨m,none,none,[],rfl,hL.keep (.cons (t:=6) rfl (fun _ _ h_=>h_) (.cons (t:=16) rfl (fun _ _ h_=>h_) .nil)),(fun b hb=>by cases hb),by simp⟩ ?_
 rintro k a s ⟨rem,cur,og,out,hrk,hL,hdis,hperm⟩ KL hKL;refine wp_seq_k fun K5 hK5=>?_;refine rg ?_;refine st_next (L':=[(6,Pd.row En.SBranch s0.w.heap.size 82 og out)]) 17 hL (x:=16) rfl rfl rfl rfl rfl (by decide) (.cons (t:=6) rfl hdis .nil) (fun a hrem hL=>?_) (fun a s p rem' hp hL=>?_)
 ·subst hrem;refine st 18 (t_nx (o_t 17 rfl) rfl rfl) rfl rfl hL fun a s e_ hL=>?_;refine en' ?_;show K5 a s.w;refine hK5 _ _ ?_;refine wp_seq_k fun K6 hK6=>?_;refine cnd hL rfl (fun hb3_=>by cases hb3_) (fun _=>?_);refine wp_exit ?_;exact J a s og out (hL.keep (.cons (t:=6) rfl (fun _ _ h_=>h_) .nil)) (by simpa using hperm)
 refine st 18 (t_nx (o_t 17 rfl) rfl rfl) rfl rfl hL fun a s e_ hL=>?_;refine en' ?_;show K5 a s.w;refine hK5 _ _ ?_;refine wp_seq_k fun K6 hK6=>?_;refine cnd hL rfl (fun _=>?_) (fun hb3_=>by cases hb3_);refine wp_skip ?_;show K6 a s.w;refine hK6 _ _ ?_;refine wp_block ?_;refine wp_seq_k fun K9 hK9=>?_;refine rg ?_;refine st 19 (t_entry (o_t 16 rfl) (zey Tryz.underlying9) rfl rfl) rfl rfl hL fun a s e_ hL=>?_;refine st 20 (zog (o_t 19 rfl) rfl rfl) rfl rfl hL fun a s e_ hL=>?_;have l6:=hL.rlt 6 rfl;have lr:=hL.ilt 16 rfl r rfl;refine z8 En.SBranch (z:=(([],0):SBranch)) 8 hL zmg rfl rfl rfl rfl fun a s g8 hg8 hL=>?_;have d6:∀b,og=some b→¬ some g8=some b:=fun b hb e=>by cases e;have:=l6 g8 hb;omega
 refine zm7 (L':=[(6,Pd.row En.SBranch s0.w.heap.size 82 og out),(16,Pd.iter En.str kvStr En.SBranch s0.w.heap.size r rem' (some p))]) 8 hL rfl (o_t 20 rfl) ty82 rfl rfl rfl (.cons (t:=6) rfl d6 (.cons (t:=16) rfl (fun b hb e=>by cases hb;cases e;omega) .nil)) fun s hL=>?_;refine en' ?_;show K9 a s.w;refine hK9 _ _ ?_;refine rg ?_;have hpl:=hp.length_eq;simp only [List.length_cons] at hpl;have hol:out.length+(rem.length:Nat)=m.length:=by
  have:=hperm.length_eq;simpa using this
 refine st 21 (zo (o_t 6 rfl) rfl rfl) rfl rfl hL fun a s e_ hL=>?_;refine st 22 (zjd ty82 (o_t 8 rfl) rfl rfl) rfl rfl hL fun a s e_ hL=>?_;refine st 23 (t_lit (xs:=[.tmp 22]) (.cons (o_t 22 rfl) .nil) Tryz.underlying79 ty82 rfl rfl (by decide) rfl rfl) rfl rfl hL fun a s e_ hL=>?_;have lr:=hL.ilt 16 rfl r rfl;refine zb4 (L':=[(16,Pd.iter En.str kvStr En.SBranch s0.w.heap.size r rem' (some p))]) 24 hL (o_t 21 rfl) (o_t 23 rfl) Tryz.underlying79 ty82 (by simp;omega) rfl rfl rfl rfl (.cons (t:=16) rfl (fun b hb e=>hdis b e hb) .nil) fun a s og' hg' hL=>?_;refine st 6 (zy (o_t 24 rfl) rfl rfl) rfl rfl hL fun a s e_ hL=>?_;refine en' ?_;refine hKL (k-1) a s (by omega) ⟨rem',some p,og',out++[p.2],by omega,hL.keep (.cons (t:=6) rfl (fun _ _ h_=>h_) (.cons (t:=16) rfl (fun _ _ h_=>h_) .nil)),fun b hb e=>?_, ?_⟩
 ·rcases hg' b hb with h3 | h3
  ·exact hdis b h3 e
  ·cases e;omega
 ·refine List.Perm.trans ?_ hperm;have h5:=hp.map (·.2);rw [List.map_cons] at h5;rw [List.append_assoc,List.singleton_append];exact (h5.symm.append_left out)
set_option maxRecDepth 100000
set_option maxHeartbeats 2000000
set_option synthInstance.maxSize 100000
set_option synthInstance.maxHeartbeats 200000
theorem zp9 {d_:SDesc} {s_:(List SItem)} {r_:Bool} (h:ziv d_ s_ r_):Fn Tryz.prog 160 [(Pd.rep En.SDesc d_),(Pd.rep (En.slice En.SItem) s_)] (Rq (Pd.rep En.bool r_)):=by
 unfold ziv at h;refine zbi Tryz.func160 J Tryz.ntmps160 (by rfl) (by simp) fun s0 a L=>?_;refine rA 2 L fun a s L=>?_;refine wp_seq_k fun K1 H1=>?_;obtain ⟨e2,h3,e4,h5,b6,h7,h⟩:=h;refine ra 17 (pp h3 (pp h5 (p1 h7))) L fun a s L=>?_;refine cn L h (fun h=>?_) fun h=>?_
 ·refine rA 1 L fun a s L=>?_;subst h;exact wp_ret (zdm J L J)
 ·refine wp_skip (H1 _ _ ?_);obtain ⟨e8,h9,e10,h11,h⟩:=h;refine wp_seq (rdx 9 (pp h9 (p1 h11)) L fun a s L=>?_);refine sA 1 L fun a s L=>?_;refine es ?_;obtain ⟨e12,h13,b14,h15,h⟩:=h;refine ra 18 (pp h13 (p1 h15)) L fun a s L=>?_;subst h;exact wp_ret (zdm J L J)
theorem zce {l_:(List SItem)} {s_:(List SItem)} {r_:(List SItem)} (h:zca l_ s_ r_):Fn Tryz.prog 161 [(Pd.rep (En.slice En.SItem) l_),(Pd.rep (En.slice En.SItem) s_)] (Ro En.SItem 77 r_):=by
 unfold zca at h;refine zbi Tryz.func161 J Tryz.ntmps161 (by rfl) (by simp) fun s0 a L=>?_;refine rs (sno En.SItem 77 L fun a s L=>?_);refine es ?_;obtain ⟨h2,h4,h⟩:=h;refine rs (st_new En.SItem 5 L Ud.h Tq.h J J J J fun a s g1 hg_ L=>?_);refine sA 1 L fun a s L=>?_;refine st_appu 7 L op op Ud.h Ud.h Tq.h h2 J J J J ka fun a s og3 hg_ L=>?_;refine sA 1 L fun a s L=>?_;refine zb4 9 L op op Ud.h Tq.h h4 J J J J ka fun a s og5 hg_ L=>?_;refine sA 1 L fun a s L=>?_;refine es ?_;subst h;exact wp_ret (zet J L J)
theorem zjj {l_:(List SBranch)} {s_:(List SItem)} {many_:Int} {r_:(List SBranch)} (h:zb0 l_ s_ many_ r_):Fn Tryz.prog 60 [(Pd.rep (En.slice En.SBranch) l_),(Pd.rep (En.slice En.SItem) s_),(Pi many_)] (Ro En.SBranch 82 r_):=by
 unfold zb0 at h;refine zbi Tryz.func60 J Tryz.ntmps60 (by rfl) (by simp) fun s0 a L=>?_;refine rs (sno En.SBranch 82 L fun a s L=>?_);refine es (rs ?_);refine sno En.SBranch 82 L fun a s L=>?_;refine es (rA 1 L fun a s L=>?_);refine wp_seq_k fun K1 H1=>rA 1 L fun a s L=>?_;refine wp_block ?_;have J5:∀(out2:(List SBranch)) (done4:Bool) (og3:Option Nat) (a:Act) (s:St),Has N0 67 s0 a s [(1,(Pd.rep (En.slice En.SItem) s_)),(2,(Pi many_)),(7,(Pd.row En.SBranch s0.w.heap.size 82 og3 out2)),(8,(Pd.rep En.bool done4))]→((zb0.j1 s_ many_ r_) out2 done4)→K1 a s.w:=by
  intro out2 done4 og3 a s L h;unfold zb0.j1 at h;show K1 a s.w;refine H1 _ _ (wp_seq_k fun K6 H6=>?_);refine rA 2 L fun a s L=>?_;refine cn L h (fun h=>?_) fun h=>?_
  ·obtain ⟨h7,h⟩:=h;refine rg (sA 3 L fun a s L=>?_);refine sv (zbj (x:=(s_,many_)) (ps:=[(0,.tmp 61),(1,.tmp 62)]) zmg J stt82 (.cons (i:=0) op J (zw (zk _ _ _)) (.cons (i:=1) op J (zi (zk _ _ _) J) .nil)) J J) L fun a s L=>?_;refine sA 1 L fun a s L=>?_;refine zb4 65 L op op Ud.h Tq.h h7 J J J J ka fun a s og8 hg_ L=>?_;refine sA 1 L fun a s L=>?_;refine en' (H6 _ _ ?_);refine rA 2 L fun a s L=>?_;subst h;exact wp_ret (zet J L J)
  ·refine wp_skip (H6 _ _ ?_);refine rA 2 L fun a s L=>?_;subst h;exact wp_ret (zet J L J)
 obtain ⟨k13,h⟩:=h;refine lpn (fun k14 a s=>∃(out9:(List SBranch)) (done11:Bool) (i12:Int) (og10:Option Nat),Has N0 67 s0 a s [(0,(Pd.rep (En.slice En.SBranch) l_)),(1,(Pd.rep (En.slice En.SItem) s_)),(2,(Pi many_)),(7,(Pd.row En.SBranch s0.w.heap.size 82 og10 out9)),(8,(Pd.rep En.bool done11)),(9,(Pi i12))]∧zb0.l1 l_ s_ many_ (zb0.j1 s_ many_ r_) k14 out9 done11 i12) k13 ⟨([]:(List SBranch)),false,0,none,L.kk,h⟩ ?_;rintro k14 a s ⟨out9,done11,i12,og10,L,h⟩ KL15 hKL15;unfold zb0.l1 at h;refine wp_seq_k fun K16 H16=>rA 4 L fun a s L=>?_;refine cn L h (fun h=>?_) fun h=>?_
 ·refine wp_skip (H16 _ _ ?_);refine wp_seq_k fun K17 H17=>wp_block ?_;obtain ⟨e18,h19,r20,h21,h⟩:=h;refine ra 8 (pp h19 (p1 (zi7 h21))) L fun a s L=>?_;refine wp_seq_k fun K22 H22=>rA 2 L fun a s L=>?_;refine cn L h (fun h=>?_) fun h=>?_
  ·obtain ⟨e23,h24,h25,h26,h⟩:=h;refine rs (sl 10 (p1 h24) L fun a s L=>?_);refine sv (zbj (x:=(s_,(min 2 (e23.2+many_)))) (ps:=[(0,.tmp 27),(1,.tmp 35)]) zmg J stt82 (.cons (i:=0) op J (zw (zk _ _ _)) (.cons (i:=1) op J (zi (zk _ _ _) J) .nil)) J J) L fun a s L=>?_;refine sA 1 L fun a s L=>?_;refine zb4 38 L op op Ud.h Tq.h h26 J J J J ka fun a s og27 hg_ L=>?_;refine sA 1 L fun a s L=>?_;refine es (rA 1 L fun a s L=>?_);refine wp_exit ?_;show K17 a s.w;refine H17 _ _ ?_;obtain ⟨h28,h⟩:=h;refine rg (sA 3 L fun a s L=>?_);refine en' ?_;exact hKL15 a s ⟨(out9++[(s_,(min 2 (e23.2+many_)))]),true,(i12+1),og27,L.kk,h⟩
  ·refine wp_skip (H22 _ _ ?_);refine wp_seq_k fun K29 H29=>rA 6 L fun a s L=>?_;have J33:∀(out30:(List SBranch)) (done32:Bool) (og31:Option Nat) (a:Act) (s:St),Has N0 67 s0 a s [(0,(Pd.rep (En.slice En.SBranch) l_)),(1,(Pd.rep (En.slice En.SItem) s_)),(2,(Pi many_)),(7,(Pd.row En.SBranch s0.w.heap.size 82 og31 out30)),(8,(Pd.rep En.bool done32)),(9,(Pi i12))]→((zb0.j2 (zb0.l1 l_ s_ many_ (zb0.j1 s_ many_ r_) k14) l_ i12) out30 done32)→K29 a s.w:=by
    intro out30 done32 og31 a s L h;unfold zb0.j2 at h;show K29 a s.w;refine H29 _ _ ?_;obtain ⟨e34,h35,h36,h⟩:=h;refine rg (sl 6 (p1 h35) L fun a s L=>?_);refine zb4 57 L op op Ud.h Tq.h h36 J J J J ka fun a s og37 hg_ L=>?_;refine sA 1 L fun a s L=>?_;refine en' (H17 _ _ ?_);obtain ⟨h38,h⟩:=h;refine rg (sA 3 L fun a s L=>?_);refine en' ?_;exact hKL15 a s ⟨(out30++[e34]),done32,(i12+1),og37,L.kk,h⟩
   refine cn L h (fun h=>?_) fun h=>?_
   ·obtain ⟨h39,h⟩:=h;refine rs (sA 3 L fun a s L=>?_);refine sv (zbj (x:=(s_,many_)) (ps:=[(0,.tmp 46),(1,.tmp 47)]) zmg J stt82 (.cons (i:=0) op J (zw (zk _ _ _)) (.cons (i:=1) op J (zi (zk _ _ _) J) .nil)) J J) L fun a s L=>?_;refine sA 1 L fun a s L=>?_;refine zb4 50 L op op Ud.h Tq.h h39 J J J J ka fun a s og40 hg_ L=>?_;refine sA 1 L fun a s L=>?_;refine es (rg ?_);refine sA 1 L fun a s L=>?_;refine en' ?_;exact J33 (out9++[(s_,many_)]) true og40 a s (L.kk) h
   ·refine wp_skip ?_;exact J33 out9 done11 og10 a s (L.kk) h
 ·refine wp_exit ?_;exact J5 out9 done11 og10 a s (L.kk) h
theorem zr8 {d_:SDesc} {s_:(List SItem)} {r_:(List (List SItem))} (h:zb7 d_ s_ r_):Fn Tryz.prog 162 [(Pd.rep En.SDesc d_),(Pd.rep (En.slice En.SItem) s_)] (Ro (En.slice En.SItem) 47 r_):=by
 unfold zb7 at h;refine zbi Tryz.func162 J Tryz.ntmps162 (by rfl) (by simp) fun s0 a L=>?_;refine rs (sA 1 L fun a s L=>?_);refine sno (En.slice En.SItem) 47 L fun a s L=>?_;refine es ?_;obtain ⟨e1,h2,h⟩:=h;refine rs (sl 3 (p1 h2) L fun a s L=>?_);refine z8 En.SItem (z:=(0,0,0,0)) 5 L zeu J J J J fun a s g3 hg_ L=>?_;refine sB 5 L fun s L=>?_;refine es ?_;obtain ⟨h4,h⟩:=h;refine rA 3 L fun a s L=>?_;obtain ⟨e5,h6,h⟩:=h;refine rs (sl 6 (p1 h6) L fun a s L=>?_);have lt_d8:=L.blt 5 rfl;refine z8 En.SNode (z:=(0,0,0,0,0,(0#256),([]:Str))) 7 L zku J J J J fun a s g7 hg_ L=>?_;have d8:=Dis.newg hg_ lt_d8;refine sB 7 L fun s L=>?_;refine es (rs ?_);refine sA 2 L fun a s L=>?_;refine sv (zbj (x:=(1,e5.2.1,0,0)) (ps:=[(0,.const (.int .i64 1)),(1,.tmp 23)]) zeu J zim (.cons (i:=0) op J (zw (zk _ _ _)) (.cons (i:=1) op J (zi (zw (zk _ _ _)) J) .nil)) J J) L fun a s L=>?_;have lt_d11:=L.blt 7 rfl;have lt_d10:=L.blt 5 rfl;refine z8 En.SItem (z:=(0,0,0,0)) 8 L zeu J J J J fun a s g9 hg_ L=>?_;have d10:=Dis.newg hg_ lt_d10;have d11:=Dis.newg hg_ lt_d11;refine sB 8 L fun s L=>?_;refine es (rs ?_);refine sA 2 L fun a s L=>?_;refine sv (zbj (x:=(1,e5.2.2.1,0,0)) (ps:=[(0,.const (.int .i64 1)),(1,.tmp 26)]) zeu J zim (.cons (i:=0) op J (zw (zk _ _ _)) (.cons (i:=1) op J (zi (zw (zk _ _ _)) J) .nil)) J J) L fun a s L=>?_;have lt_d15:=L.blt 8 rfl;have lt_d14:=L.blt 7 rfl;have lt_d13:=L.blt 5 rfl;refine z8 En.SItem (z:=(0,0,0,0)) 9 L zeu J J J J fun a s g12 hg_ L=>?_;have d13:=Dis.newg hg_ lt_d13;have d14:=Dis.newg hg_ lt_d14
 have d15:=Dis.newg hg_ lt_d15;refine sB 9 L fun s L=>?_;refine es (rs ?_);refine sno (En.slice En.SItem) 47 L fun a s L=>?_;refine es (wp_seq_k fun K16 H16=>?_);refine rA 3 L fun a s L=>?_;refine cn L h (fun h=>?_) fun h=>?_
 ·refine wp_seq_k fun K17 H17=>?_;refine rA 3 L fun a s L=>?_;have J20:∀(out18:(List (List SItem))) (og19:Option Nat) (a:Act) (s:St),Has N0 143 s0 a s [(10,(Pd.row (En.slice En.SItem) s0.w.heap.size 47 og19 out18))]→((zb7.j1 r_) out18)→K17 a s.w:=by
   intro out18 og19 a s L h;unfold zb7.j1 at h;show K17 a s.w;refine H17 _ _ (rA 2 L fun a s L=>?_);subst h;exact wp_ret (zet J L J)
  refine cn L h (fun h=>?_) fun h=>?_
  ·obtain ⟨r21,h22,h23,h⟩:=h;refine rg (sl 4 (p1 ((zce h22).frz)) L fun a s L=>?_);refine zb4 38 L op op Ud.h Tq.h h23 J J J J ka fun a s og24 hg_ L=>?_;refine sA 1 L fun a s L=>?_;refine en' ?_;exact J20 (([]:(List (List SItem)))++[r21]) og24 a s (L.kk) h
  ·refine wp_skip ?_;exact J20 ([]:(List (List SItem))) none a s (L.kk) h
 ·refine wp_skip (H16 _ _ ?_);refine wp_seq_k fun K25 H25=>rA 3 L fun a s L=>?_;refine cn L h (fun h=>?_) fun h=>?_
  ·refine wp_seq_k fun K26 H26=>?_;refine rA 3 L fun a s L=>?_;have J29:∀(out27:(List (List SItem))) (og28:Option Nat) (a:Act) (s:St),Has N0 143 s0 a s [(5,(Pd.box En.SItem s0.w.heap.size g3 e1)),(6,(Pd.rep (En.slice En.SItem) (s_.drop (1:Int).toNat))),(8,(Pd.box En.SItem s0.w.heap.size g9 (1,e5.2.1,0,0))),(10,(Pd.row (En.slice En.SItem) s0.w.heap.size 47 og28 out27))]→Dis (some g3) (some g9)→Dis (some g3) og28→Dis (some g9) og28→((zb7.j3 s_ r_ e1 e5) out27)→K26 a s.w:=by
    intro out27 og28 a s L d30 d31 d32 h;unfold zb7.j3 at h;show K26 a s.w;refine H26 _ _ (wp_seq_k fun K33 H33=>?_);refine rA 3 L fun a s L=>?_;have J36:∀(out34:(List (List SItem))) (og35:Option Nat) (a:Act) (s:St),Has N0 143 s0 a s [(10,(Pd.row (En.slice En.SItem) s0.w.heap.size 47 og35 out34))]→((zb7.j2 r_) out34)→K33 a s.w:=by
     intro out34 og35 a s L h;unfold zb7.j2 at h;show K33 a s.w;refine H33 _ _ (rA 2 L fun a s L=>?_);subst h;exact wp_ret (zet J L J)
    refine cn L h (fun h=>?_) fun h=>?_
    ·obtain ⟨h37,h38,r39,h40,h41,h⟩:=h;refine rg (sA 11 L fun a s L=>?_);refine sv (zbj (x:=(2,e1.2.1,(max 0 (e1.2.2.1-1)),e1.2.2.2-1)) (ps:=[(0,.const (.int .i64 2)),(1,.tmp 57),(2,.tmp 61),(3,.tmp 64)]) zeu J zim (.cons (i:=0) op J (zw (zk _ _ _)) (.cons (i:=1) op J (zi (zw (zk _ _ _)) J) (.cons (i:=2) op J (zi (zi (zw (zk _ _ _)) J) J) (.cons (i:=3) op J (zi (zi (zi (zk _ _ _) J) J) J) .nil)))) J J) L fun a s L=>?_;refine sl 4 (p1 ((zce h40).frz)) L fun a s L=>?_;refine zb4 70 L op op Ud.h Tq.h h41 J J J J ka fun a s og42 hg_ L=>?_;refine sA 1 L fun a s L=>?_;refine en' ?_;exact J36 (out27++[r39]) og42 a s (L.kk) h
    ·refine wp_skip ?_;exact J36 out27 og28 a s (L.kk) h
   refine cn L h (fun h=>?_) fun h=>?_
   ·obtain ⟨r43,h44,h45,h⟩:=h;refine rg (sl 4 (p1 ((zce h44).frz)) L fun a s L=>?_);have lt_og46_0:=L.blt 5 rfl;have lt_og46_1:=L.blt 8 rfl;refine zb4 50 L op op Ud.h Tq.h h45 J J J J ka fun a s og46 hg_ L=>?_;have d47:=Dis.app hg_ Dis.none lt_og46_0;have d48:=Dis.app hg_ Dis.none lt_og46_1;refine sA 1 L fun a s L=>?_;refine en' ?_;exact J29 (([]:(List (List SItem)))++[r43]) og46 a s (L.kk) (Dis.symm d10) (Dis.symm d47) (Dis.symm d48) h
   ·refine wp_skip ?_;exact J29 ([]:(List (List SItem))) none a s (L.kk) (Dis.symm d10) (Dis.symm Dis.none) (Dis.symm Dis.none) h
  ·refine wp_skip (H25 _ _ ?_);refine wp_seq_k fun K49 H49=>rA 2 L fun a s L=>?_;refine wp_block (rA 2 L fun a s L=>?_);refine cn L h (fun h=>?_) fun h=>?_
   ·obtain ⟨r50,h51,h52,h⟩:=h;refine rg (sl 4 (p1 ((zce h51).frz)) L fun a s L=>?_);refine zb4 80 L op op Ud.h Tq.h h52 J J J J ka fun a s og53 hg_ L=>?_;refine sA 1 L fun a s L=>?_;refine en' (H49 _ _ ?_);refine rA 2 L fun a s L=>?_;subst h;exact wp_ret (zet J L J)
   ·refine rA 2 L fun a s L=>?_;refine cn L h (fun h=>?_) fun h=>?_
    ·obtain ⟨r54,h55,h56,h⟩:=h;refine rg (sA 3 L fun a s L=>?_);refine sv (zbj (x:=(3,e1.2.1,0,0)) (ps:=[(0,.const (.int .i64 3)),(1,.tmp 85)]) zeu J zim (.cons (i:=0) op J (zw (zk _ _ _)) (.cons (i:=1) op J (zi (zw (zk _ _ _)) J) .nil)) J J) L fun a s L=>?_;refine sl 4 (p1 ((zce h55).frz)) L fun a s L=>?_;refine zb4 91 L op op Ud.h Tq.h h56 J J J J ka fun a s og57 hg_ L=>?_;refine sA 1 L fun a s L=>?_;refine en' (H49 _ _ ?_);refine rA 2 L fun a s L=>?_;subst h;exact wp_ret (zet J L J)
    ·refine rA 2 L fun a s L=>?_;refine cn L h (fun h=>?_) fun h=>?_
     ·obtain ⟨r58,h59,h60,h⟩:=h;refine rg (sl 7 (p1 ((zce h59).frz)) L fun a s L=>?_);refine zb4 101 L op op Ud.h Tq.h h60 J J J J ka fun a s og61 hg_ L=>?_;refine sA 1 L fun a s L=>?_;refine en' (H49 _ _ ?_);refine rA 2 L fun a s L=>?_;subst h;exact wp_ret (zet J L J)
     ·refine rA 2 L fun a s L=>?_;refine cn L h (fun h=>?_) fun h=>?_
      ·obtain ⟨r62,h63,r64,h65,h66,h⟩:=h;refine rdx 10 (pp ((zce h63).frz) (p1 ((zce h65).frz))) L fun a s L=>?_;refine zb4 114 L op op Ud.h Tq.h h66 J J J J ka fun a s og67 hg_ L=>?_;refine sA 1 L fun a s L=>?_;refine en' (H49 _ _ ?_);refine rA 2 L fun a s L=>?_;subst h;exact wp_ret (zet J L J)
      ·refine rA 2 L fun a s L=>?_;refine cn L h (fun h=>?_) fun h=>?_
       ·obtain ⟨r68,h69,r70,h71,h72,h⟩:=h;refine rdx 9 (pp ((zce h69).frz) (p1 ((zce h71).frz))) L fun a s L=>?_;refine zb4 126 L op op Ud.h Tq.h h72 J J J J ka fun a s og73 hg_ L=>?_;refine sA 1 L fun a s L=>?_;refine en' (H49 _ _ ?_);refine rA 2 L fun a s L=>?_;subst h;exact wp_ret (zet J L J)
       ·refine rA 2 L fun a s L=>?_;refine cn L h (fun h=>?_) fun h=>?_
        ·obtain ⟨r74,h75,h76,h⟩:=h;refine rg (sA 7 L fun a s L=>?_);refine sv (zbj (x:=(2,e1.2.1,e5.2.2.2.1,e5.2.2.2.2.1)) (ps:=[(0,.const (.int .i64 2)),(1,.tmp 131),(2,.tmp 133),(3,.tmp 135)]) zeu J zim (.cons (i:=0) op J (zw (zk _ _ _)) (.cons (i:=1) op J (zi (zw (zk _ _ _)) J) (.cons (i:=2) op J (zi (zi (zw (zk _ _ _)) J) J) (.cons (i:=3) op J (zi (zi (zi (zk _ _ _) J) J) J) .nil)))) J J) L fun a s L=>?_;refine sl 4 (p1 ((zce h75).frz)) L fun a s L=>?_;refine zb4 141 L op op Ud.h Tq.h h76 J J J J ka fun a s og77 hg_ L=>?_;refine sA 1 L fun a s L=>?_;refine en' (H49 _ _ ?_);refine rA 2 L fun a s L=>?_;subst h;exact wp_ret (zet J L J)
        ·refine wp_skip (H49 _ _ ?_);refine rA 2 L fun a s L=>?_;subst h;exact wp_ret (zet J L J)
theorem zbv.n_ok (k_:Nat):∀{d_:SDesc} {s_:(List SItem)} {l_:(List SBranch)} {r_:(List SBranch)} (h:zbv.n k_ d_ s_ l_ r_),Fn Tryz.prog 133 [(Pd.rep En.SDesc d_),(Pd.rep (En.slice En.SItem) s_),(Pd.rep (En.slice En.SBranch) l_)] (Rq (Pd.rep (En.slice En.SBranch) r_)):=by
 induction k_ with
 | zero=>intro d_ s_ l_ r_ h;exact h.elim
 | succ k_ ih_=>
 intro d_ s_ l_ r_ h;unfold zbv.n at h;refine zbi Tryz.func133 J Tryz.ntmps133 (by rfl) (by simp) fun s0 a L=>?_;refine rs (sA 1 L fun a s L=>?_);refine snr En.SBranch L fun a s L=>?_;refine es (wp_seq_k fun K1 H1=>?_);obtain ⟨r2,h3,h⟩:=h;refine ra 3 (p1 (zp9 h3)) L fun a s L=>?_;refine cn L h (fun h=>?_) fun h=>?_
 ·obtain ⟨r4,h5,r6,h7,h⟩:=h;refine ra 5 (pp ((zce h5).frz) (p1 ((zjj h7).frz))) L fun a s L=>?_;subst h;exact wp_ret (zdm J L J)
 ·refine wp_skip (H1 _ _ ?_);obtain ⟨r8,h9,h⟩:=h;refine ra 4 (p1 ((zr8 h9).frz)) L fun a s L=>?_;refine wp_seq_k fun K10 H10=>rA 1 L fun a s L=>?_;refine wp_block ?_;have J12:∀(l11:(List SBranch)) (a:Act) (s:St),Has N0 33 s0 a s [(2,(Pd.rep (En.slice En.SBranch) l11))]→((zbv.j1 r_) l11)→K10 a s.w:=by
   intro l11 a s L h;unfold zbv.j1 at h;show K10 a s.w;refine H10 _ _ (rA 2 L fun a s L=>?_);subst h;exact wp_ret (zdm J L J)
  obtain ⟨k15,h⟩:=h;refine lpn (fun k16 a s=>∃(l13:(List SBranch)) (i14:Int),Has N0 33 s0 a s [(2,(Pd.rep (En.slice En.SBranch) l13)),(3,(Pd.ptr En.SDesc d_)),(7,(Pd.rep (En.slice (En.slice En.SItem)) r8)),(8,(Pi i14))]∧zbv.l1 (zbv.n k_) d_ r8 (zbv.j1 r_) k16 l13 i14) k15 ⟨l_,0,L.kk,h⟩ ?_;rintro k16 a s ⟨l13,i14,L,h⟩ KL17 hKL17;unfold zbv.l1 at h;refine wp_seq_k fun K18 H18=>rA 4 L fun a s L=>?_;refine cn L h (fun h=>?_) fun h=>?_
  ·refine wp_skip (H18 _ _ ?_);refine wp_seq_k fun K19 H19=>wp_block ?_;obtain ⟨e20,h21,r22,h23,h⟩:=h;refine rdx 7 (pp h21 (p1 (ih_ h23))) L fun a s L=>?_;refine sA 1 L fun a s L=>?_;refine en' (H19 _ _ ?_);obtain ⟨h24,h⟩:=h;refine rg (sA 3 L fun a s L=>?_);refine en' ?_;exact hKL17 a s ⟨r22,(i14+1),L.kk,h⟩
  ·refine wp_exit ?_;exact J12 l13 a s (L.kk) h
theorem zr7 {d_:SDesc} {s_:(List SItem)} {l_:(List SBranch)} {r_:(List SBranch)} (h:zbv d_ s_ l_ r_):Fn Tryz.prog 133 [(Pd.rep En.SDesc d_),(Pd.rep (En.slice En.SItem) s_),(Pd.rep (En.slice En.SBranch) l_)] (Rq (Pd.rep (En.slice En.SBranch) r_)):=by
 obtain ⟨k_,h⟩:=h;exact zbv.n_ok k_ h
theorem zhu {d_:SDesc} {s_:(List SItem)} {r_:(List SBranch)} (h:zfy d_ s_ r_):Fn Tryz.prog 100 [(Pd.rep En.SDesc d_),(Pd.rep (En.slice En.SItem) s_)] (Rq (Pd.rep (En.slice En.SBranch) r_)):=by
 unfold zfy at h;refine zbi Tryz.func100 J Tryz.ntmps100 (by rfl) (by simp) fun s0 a L=>?_;refine rs (sA 1 L fun a s L=>?_);refine snr En.SBranch L fun a s L=>?_;refine es ?_;obtain ⟨r1,h2,h⟩:=h;refine ra 4 (p1 (zr7 h2)) L fun a s L=>?_;subst h;exact wp_ret (zdm J L J)
open Go.Shelf Go.Sort
theorem zmo (v0:Value) {x r:List SBranch} (h:zkx x r):Fm Tryz.prog 91 (fun b=>v0.ownBlock=some b) [Pd.prow En.SBranch 82 v0 x,Pd.is (.func (.func 92) #[] #[])] (fun _ s' _=>(Pd.prow En.SBranch 82 v0 r).p s' v0):=fm_branch (zfh Tryz.func92 rfl (by rfl)) h.1 h.2.2.1 h.2.2.2 (fun a ha b hb=>VD.next_On_1_ok ⟨_,zha (h.2.1 a ha),rfl⟩) v0
end Go.Proofs.YtahgmdbioafmbaaGreatDoor.V
namespace Go.Proofs.YtahgmdbioafmbaaGreatDoor.V
open Go
set_option linter.unusedVariables false
set_option maxRecDepth 100000
set_option maxHeartbeats 2000000
set_option synthInstance.maxSize 100000
set_option synthInstance.maxHeartbeats 200000
theorem zlw {nv_:SNode} {ahead_:Int} {r_:(List SItem)} (h:zkm nv_ ahead_ r_):Fn Tryz.prog 211 [(Pd.rep En.SNode nv_),(Pi ahead_)] (Ro En.SItem 77 r_):=by
 unfold zkm at h;refine zbi Tryz.func211 J Tryz.ntmps211 (by rfl) (by simp) fun s0 a L=>?_;refine rs (sA 1 L fun a s L=>?_);refine sno En.SItem 77 L fun a s L=>?_;refine es (rs ?_);refine sA 2 L fun a s L=>?_;refine sv (zbj (x:=(1,nv_.2.1,0,0)) (ps:=[(0,.const (.int .i64 1)),(1,.tmp 6)]) zeu J zim (.cons (i:=0) op J (zw (zk _ _ _)) (.cons (i:=1) op J (zi (zw (zk _ _ _)) J) .nil)) J J) L fun a s L=>?_;refine sA 1 L fun a s L=>?_;refine sv (zbj (x:=(5,0,ahead_,0)) (ps:=[(0,.const (.int .i64 5)),(2,.tmp 8)]) zeu J zim (.cons (i:=0) op J (zw (zk _ _ _)) (.cons (i:=2) op J (zi (zi (zw (zk _ _ _)) J) J) .nil)) J J) L fun a s L=>?_;refine zd5 (xs:=[.tmp 7,.tmp 9]) 10 L (.cons op (.cons op .nil)) Ud.h Tq.h J J (by decide) J J J J fun a s g1 hg_ L=>?_;refine sA 1 L fun a s L=>?_;refine es ?_;subst h;exact wp_ret (zet J L J)
theorem zmw {s_:Sstep_next} {r_:((List SItem) × Bool)} (h:zhy s_ r_):Fn Tryz.prog 209 [(Pd.rep En.Sstep_next s_)] (Ro2 En.SItem 77 r_.1 (Pd.rep En.bool r_.2)):=by
 unfold zhy at h;refine zbi Tryz.func209 J Tryz.ntmps209 (by rfl) (by simp) fun s0 a L=>?_;refine rs (sA 1 L fun a s L=>?_);refine sno En.SItem 77 L fun a s L=>?_;refine sA 1 L fun a s L=>?_;refine es (wp_seq_k fun K1 H1=>?_);refine rA 3 L fun a s L=>?_;refine wp_block (rA 2 L fun a s L=>?_);refine cn L h (fun h=>?_) fun h=>?_
 ·obtain ⟨r2,h3,h⟩:=h;refine rs (sA 5 L fun a s L=>?_);refine zco 14 L (zlw h3) opz J J J J fun a s og4 hg_ L=>?_;refine sA 2 L fun a s L=>?_;refine es ?_;subst h;exact wp_ret (zgt J L J J)
 ·refine rA 2 L fun a s L=>?_;refine cn L h (fun h=>?_) fun h=>?_
  ·refine rs ?_;refine sA 6 L fun a s L=>?_;refine sv (zbj (x:=(4,s_.2.1.2.1,s_.2.2,0)) (ps:=[(0,.const (.int .i64 4)),(1,.tmp 19),(2,.tmp 22)]) zeu J zim (.cons (i:=0) op J (zw (zk _ _ _)) (.cons (i:=1) op J (zi (zw (zk _ _ _)) J) (.cons (i:=2) op J (zi (zi (zw (zk _ _ _)) J) J) .nil))) J J) L fun a s L=>?_;refine zd5 (xs:=[.tmp 23]) 24 L (.cons op .nil) Ud.h Tq.h J J (by decide) J J J J fun a s g5 hg_ L=>?_;refine sA 2 L fun a s L=>?_;refine es ?_;subst h;exact wp_ret (zgt J L J J)
  ·refine wp_skip (H1 _ _ ?_);obtain ⟨r6,h7,h⟩:=h;refine rs (sl 6 (p1 (zjy h7)) L fun a s L=>?_);refine sno En.SItem 77 L fun a s L=>?_;refine sA 1 L fun a s L=>?_;refine es ?_;subst h;exact wp_ret (zgt J L J J)
theorem zmv {s_:Sstep_next} {r_:((List SItem) × Bool)} (h:zhx s_ r_):Fn Tryz.prog 210 [(Pd.rep En.Sstep_next s_)] (Ro2 En.SItem 77 r_.1 (Pd.rep En.bool r_.2)):=by
 unfold zhx at h;refine zbi Tryz.func210 J Tryz.ntmps210 (by rfl) (by simp) fun s0 a L=>?_;refine rs (sA 1 L fun a s L=>?_);refine sno En.SItem 77 L fun a s L=>?_;refine sA 1 L fun a s L=>?_;refine es (rs ?_);refine sA 2 L fun a s L=>?_;refine z8 En.SItem (z:=(0,0,0,0)) 4 L zeu J J J J fun a s g1 hg_ L=>?_;refine sB 4 L fun s L=>?_;refine es ?_;obtain ⟨h2,h⟩:=h;refine rs (sA 4 L fun a s L=>?_);refine zeq 4 L J op op (zi (zi (zw (zk _ _ _)) J) J) Tq.h J J J ka fun s L=>?_;refine es (wp_seq_k fun K3 H3=>?_);obtain ⟨b4,h5,h⟩:=h;refine ra 7 (p1 h5) L fun a s L=>?_;refine cn L h (fun h=>?_) fun h=>?_
 ·obtain ⟨c6,h7,h⟩:=h;refine wp_seq ?_;replace L:=L.kk (L':=[(1,(Pd.ptr En.Sstep_next s_))]);refine rda zds 12 [(Pd.ptr En.SNode s_.1),(Pd.ptr En.str s_.1.2.2.2.2.2.2),(Pd.rep En.str s_.1.2.2.2.2.2.2),(Pd.ptr En.SItem s_.2.1),(Pd.ptr (En.int .i64) s_.2.1.2.2.1),(Pi s_.2.1.2.2.1),(Pd.rep (En.int .u8) c6),(Pd.ptr (En.int .u8) s_.2.2),(Pd.rep (En.int .u8) s_.2.2),(Pd.rep En.bool (c6==s_.2.2)),(Pd.row En.SItem s0.w.heap.size 77 none ([]:(List SItem))),(Pd.rep En.bool (c6==s_.2.2))] L (by kernel_rfl) J J ?_ ?_
  ·refine zbf.cons (zje (off:=0) (O 1 J) U170 J (zbk (z6 _ _)) J ty68 J J) ?_;refine zbf.cons (zje (off:=9) (O 18 J) U68 J (zn (zn (zn (zn (zn (zn (z6 _ _) J) J) J) J) J) J) J ty9 J J) ?_;refine zbf.cons (zb8 ty9 (O 19 J) J J) ?_;refine zbf.cons (zje (off:=10) (O 1 J) U170 J (zn (zbk (z6 _ _)) J) J zmh J J) ?_;refine zbf.cons (zje (off:=2) (O 21 J) U77 J (zn (zn (zbk (z6 _ _)) J) J) J ty3 J J) ?_;refine zbf.cons (zb8 ty3 (O 22 J) J J) ?_;refine zbf.cons (t_sidx (O 20 J) (O 23 J) h7 U9 J J) ?_;refine zbf.cons (zje (off:=14) (O 1 J) U170 J (zn (zn (z6 _ _) J) J) J ty5 J J) ?_;refine zbf.cons (zb8 ty5 (O 25 J) J J) ?_;refine zbf.cons (t_eqi (O 24 J) (O 26 J) J J) ?_;refine zbf.cons (zy (o_nil (E:=En.SItem) (N:=s0.w.heap.size) (te:=77)) J J) ?_;refine zbf.cons (zy (O 27 J) J J) ?_;exact zbf.nil
  intro a s _ L;replace L:=L.kk (L':=[(2,(Pd.row En.SItem s0.w.heap.size 77 none ([]:(List SItem)))),(3,(Pd.rep En.bool (c6==s_.2.2)))]);refine dp ?_;refine es ?_;subst h;exact wp_ret (zgt J L J J)
 ·refine wp_skip (H3 _ _ ?_);obtain ⟨c10,h11,h⟩:=h;refine wp_seq ?_;obtain ⟨K8,H8,nK8,L⟩:=L.mark 999983;have lt9:∀k,(some g1)=some k→k<K8:=by rw [H8];exact L.blt 4 rfl
  replace L:=L.kk (L':=[(999983,Pd.ge K8),(1,(Pd.ptr En.Sstep_next s_)),(4,(Pd.box En.SItem s0.w.heap.size g1 (s_.2.1.1,s_.2.1.2.1,s_.2.1.2.2.1+1,s_.2.1.2.2.2)))]);refine rda zds 14 [(Pd.rep En.SItem (s_.2.1.1,s_.2.1.2.1,s_.2.1.2.2.1+1,s_.2.1.2.2.2)),(Pd.erow En.SItem s0.w.heap.size K8 77 [(s_.2.1.1,s_.2.1.2.1,s_.2.1.2.2.1+1,s_.2.1.2.2.2)]),(Pd.ptr En.SNode s_.1),(Pd.ptr En.str s_.1.2.2.2.2.2.2),(Pd.rep En.str s_.1.2.2.2.2.2.2),(Pd.ptr En.SItem s_.2.1),(Pd.ptr (En.int .i64) s_.2.1.2.2.1),(Pi s_.2.1.2.2.1),(Pd.rep (En.int .u8) c10),(Pd.ptr (En.int .u8) s_.2.2),(Pd.rep (En.int .u8) s_.2.2),(Pd.rep En.bool (c10==s_.2.2)),(Pd.erow En.SItem s0.w.heap.size K8 77 [(s_.2.1.1,s_.2.1.2.1,s_.2.1.2.2.1+1,s_.2.1.2.2.2)]),(Pd.rep En.bool (c10==s_.2.2))] L (by kernel_rfl) J J ?_ ?_
  ·refine zbf.cons (zjd zmh (O 4 J) J J) ?_;refine zbf.cons (t_litx (xs:=[.tmp 28]) (K:=K8) (m:=999983) J nK8 (.cons (O 28 J) .nil) U46 zmh J J (by decide) J J) ?_;refine zbf.cons (zje (off:=0) (O 1 J) U170 J (zbk (z6 _ _)) J ty68 J J) ?_;refine zbf.cons (zje (off:=9) (O 30 J) U68 J (zn (zn (zn (zn (zn (zn (z6 _ _) J) J) J) J) J) J) J ty9 J J) ?_;refine zbf.cons (zb8 ty9 (O 31 J) J J) ?_;refine zbf.cons (zje (off:=10) (O 1 J) U170 J (zn (zbk (z6 _ _)) J) J zmh J J) ?_;refine zbf.cons (zje (off:=2) (O 33 J) U77 J (zn (zn (zbk (z6 _ _)) J) J) J ty3 J J) ?_;refine zbf.cons (zb8 ty3 (O 34 J) J J) ?_;refine zbf.cons (t_sidx (O 32 J) (O 35 J) h11 U9 J J) ?_;refine zbf.cons (zje (off:=14) (O 1 J) U170 J (zn (zn (z6 _ _) J) J) J ty5 J J) ?_;refine zbf.cons (zb8 ty5 (O 37 J) J J) ?_;refine zbf.cons (t_eqi (O 36 J) (O 38 J) J J) ?_;refine zbf.cons (zy (O 29 J) J J) ?_;refine zbf.cons (zy (O 39 J) J J) ?_;exact zbf.nil
  intro a s _ L;obtain ⟨og12,hg_,L⟩:=L.openr 2 rfl;have d13:=Dis.new hg_ lt9;replace L:=L.kk (L':=[(2,(Pd.row En.SItem s0.w.heap.size 77 og12 [(s_.2.1.1,s_.2.1.2.1,s_.2.1.2.2.1+1,s_.2.1.2.2.2)])),(3,(Pd.rep En.bool (c10==s_.2.2)))]);refine dp ?_;refine es ?_;subst h;exact wp_ret (zgt J L J J)
theorem zmx {s_:Sstep_next} {r_:((List SItem) × Bool)} (h:zhz s_ r_):Fn Tryz.prog 207 [(Pd.rep En.Sstep_next s_)] (Ro2 En.SItem 77 r_.1 (Pd.rep En.bool r_.2)):=by
 unfold zhz at h;refine zbi Tryz.func207 J Tryz.ntmps207 (by rfl) (by simp) fun s0 a L=>?_;refine rs (sA 1 L fun a s L=>?_);refine sno En.SItem 77 L fun a s L=>?_;refine sA 1 L fun a s L=>?_;refine es ?_;obtain ⟨h1,h2,r3,h4,h⟩:=h;refine rs (sA 10 L fun a s L=>?_);refine zco 14 L (zlw h4) opz J J J J fun a s og5 hg_ L=>?_;refine sA 2 L fun a s L=>?_;refine es ?_;subst h;exact wp_ret (zgt J L J J)
theorem dyn0_ok {f_:Option Nat} {x0_:Sstep_next} {r_:((List SItem) × Bool)} (h:dyn0 f_ x0_ r_):∃f,f_=some f∧Fn Tryz.prog f [Pd.rep En.Sstep_next x0_] (Rq (Pd.tup2 (Pd.rep (En.slice En.SItem) r_.1) (Pd.rep En.bool r_.2))):=by
 rcases h with ⟨e,h⟩ | ⟨e,h⟩ | ⟨e,h⟩
 ·exact ⟨209,e,((zmw h).frz2 (Pd.rep_stable _ _)).tup⟩
 ·exact ⟨210,e,((zmv h).frz2 (Pd.rep_stable _ _)).tup⟩
 ·exact ⟨207,e,((zmx h).frz2 (Pd.rep_stable _ _)).tup⟩
theorem next_Read_ok {d_:SDesc} {s_:(List SItem)} {cv_:Int} {r_:((List SItem) × Bool)} (h:zlx d_ s_ cv_ r_):Fn Tryz.prog 90 [(Pd.rep En.SDesc d_),(Pd.rep (En.slice En.SItem) s_),(Pd.rep (En.int .u8) cv_)] (Ro2 En.SItem 77 r_.1 (Pd.rep En.bool r_.2)):=by
 unfold zlx at h;refine zbi Tryz.func90 J Tryz.ntmps90 (by rfl) (by simp) fun s0 a L=>?_;refine rs (sA 1 L fun a s L=>?_);refine sno En.SItem 77 L fun a s L=>?_;refine sA 1 L fun a s L=>?_;refine es (wp_seq_k fun K1 H1=>?_);refine rA 3 L fun a s L=>?_;refine cn L h (fun h=>?_) fun h=>?_
 ·refine rs ?_;refine sno En.SItem 77 L fun a s L=>?_;refine sA 1 L fun a s L=>?_;refine es ?_;subst h;exact wp_ret (zgt J L J J)
 ·refine wp_skip (H1 _ _ ?_);obtain ⟨h2,r3,h4,h⟩:=h;refine ra 8 (pp (((zs8 h4).frz2 (Pd.rep_stable _ _)).tup) trivial) L fun a s L=>?_;obtain ⟨e5,h6,h⟩:=h;refine wp_seq (rda zds 11 [(Pd.rep (En.fmap (En.int .i64) kvI64 En.fid) gfm0),(Pd.rep (En.slice En.SItem) s_),(Pd.ptr En.SItem e5),(Pd.ptr (En.int .i64) e5.1),(Pi e5.1),(Pd.tup2 (Pd.rep En.fid (zex gfm0 e5.1 none)) (Pd.rep En.bool (zie gfm0 e5.1))),(Pd.tup2 (Pd.rep En.fid (zex gfm0 e5.1 none)) (Pd.rep En.bool (zie gfm0 e5.1))),(Pd.rep En.fid (zex gfm0 e5.1 none)),(Pd.rep En.bool (zie gfm0 e5.1)),(Pd.rep En.fid (zex gfm0 e5.1 none)),(Pd.rep En.bool (zie gfm0 e5.1))] L (by kernel_rfl) J J ?_ ?_)
  ·refine zbf.cons (zb8 (⟨⟨_,_,J,J,J,J,by decide⟩,_,J,J⟩:Ty Tryz.prog 167 (En.fmap (En.int .i64) kvI64 En.fid)) (o_gm (g:=0) (by simp [gmap])) J J) ?_;refine zbf.cons (zo (O 1 J) J J) ?_;refine zbf.cons (zmi (O 25 J) oI h6 U47 zmh J J) ?_;refine zbf.cons (zje (off:=0) (O 26 J) U77 J (zbk (z6 _ _)) J ty3 J J) ?_;refine zbf.cons (zb8 ty3 (O 27 J) J J) ?_;refine zbf.cons (t_mgetfok (z:=none) (O 24 J) (O 28 J) U167 (key_i64 U3) (⟨_,[.nilFunc],J,by rfl,fun _ _=>J⟩:TyV Tryz.prog 165 En.fid none) J J) ?_;refine zbf.cons (zo (O 29 J) J J) ?_;refine zbf.cons (t_ext0 (O 23 J) J J) ?_;refine zbf.cons (zog (O 23 J) J J) ?_;refine zbf.cons (zy (O 30 J) J J) ?_;refine zbf.cons (zy (O 31 J) J J) ?_;exact zbf.nil
  intro a s _ L;replace L:=L.kk (L':=[(1,(Pd.rep (En.slice En.SItem) s_)),(2,(Pd.rep (En.int .u8) cv_)),(3,(Pd.ptr En.SDesc d_)),(8,(Pd.rep (En.slice En.SItem) r3.1)),(9,(Pd.rep En.bool r3.2)),(10,(Pd.rep En.fid (zex gfm0 e5.1 none))),(11,(Pd.rep En.bool (zie gfm0 e5.1)))]);refine dp ?_;refine es (wp_seq_k fun K7 H7=>?_);refine rA 6 L fun a s L=>?_;refine cn L h (fun h=>?_) fun h=>?_
  ·refine rs ?_;refine sno En.SItem 77 L fun a s L=>?_;refine sA 1 L fun a s L=>?_;refine es ?_;subst h;exact wp_ret (zgt J L J J)
  ·refine wp_skip (H7 _ _ ?_);obtain ⟨e8,h9,e10,h11,e12,h13,r14,h15,h⟩:=h;refine wp_seq (rda zds 20 [(Pd.rep En.fid (zex gfm0 e5.1 none)),(Pd.ptr (En.slice En.SNode) d_),(Pd.rep (En.slice En.SNode) d_),(Pd.rep (En.slice En.SItem) s_),(Pd.ptr En.SItem e8),(Pd.ptr (En.int .i64) e8.2.1),(Pi e8.2.1),(Pd.ptr En.SNode e10),(Pd.rep En.SNode e10),(Pd.rep (En.slice En.SItem) s_),(Pd.ptr En.SItem e12),(Pd.rep En.SItem e12),(Pd.rep (En.int .u8) cv_),(Pd.rep En.Sstep_next (e10,e12,cv_)),(Pd.tup2 (Pd.rep (En.slice En.SItem) r14.1) (Pd.rep En.bool r14.2)),(Pd.tup2 (Pd.rep (En.slice En.SItem) r14.1) (Pd.rep En.bool r14.2)),(Pd.rep (En.slice En.SItem) r14.1),(Pd.rep En.bool r14.2),(Pd.rep (En.slice En.SItem) r14.1),(Pd.rep En.bool r14.2)] L (by kernel_rfl) J J ?_ ?_)
   ·refine zbf.cons (zo (O 10 J) J J) ?_;refine zbf.cons (zje (off:=0) (O 3 J) U24 J (zki (z6 _ _)) J ty22 J J) ?_;refine zbf.cons (zb8 ty22 (O 40 J) J J) ?_;refine zbf.cons (zo (O 1 J) J J) ?_;refine zbf.cons (zmi (O 42 J) oI h9 U47 zmh J J) ?_;refine zbf.cons (zje (off:=1) (O 43 J) U77 J (zn (zbk (z6 _ _)) J) J ty3 J J) ?_;refine zbf.cons (zb8 ty3 (O 44 J) J J) ?_;refine zbf.cons (zmi (O 41 J) (O 45 J) h11 U22 ty68 J J) ?_;refine zbf.cons (zb8 ty68 (O 46 J) J J) ?_;refine zbf.cons (zo (O 1 J) J J) ?_;refine zbf.cons (zmi (O 48 J) oI h13 U47 zmh J J) ?_;refine zbf.cons (zb8 zmh (O 49 J) J J) ?_;refine zbf.cons (zo (O 2 J) J J) ?_;refine zbf.cons (zbj (x:=(e10,e12,cv_)) (ps:=[(0,.tmp 47),(1,.tmp 50),(2,.tmp 51)]) tyz170 J stt170 (.cons (i:=0) (O 47 J) J (zw (zk _ _ _)) (.cons (i:=1) (O 50 J) J (zi (zw (zk _ _ _)) J) (.cons (i:=2) (O 51 J) J (zi (zi (zk _ _ _) J) J) .nil))) J J) ?_;refine zbf.cons (t_callid (dyn0_ok h15) (O 39 J) (xs:=[.tmp 52]) (.cons (O 52 J) .nil) J J) ?_;refine zbf.cons (zo (O 53 J) J J) ?_;refine zbf.cons (t_ext0 (O 38 J) J J) ?_;refine zbf.cons (zog (O 38 J) J J) ?_;refine zbf.cons (zy (O 54 J) J J) ?_;refine zbf.cons (zy (O 55 J) J J) ?_;exact zbf.nil
   intro a s _ L;replace L:=L.kk (L':=[(8,(Pd.rep (En.slice En.SItem) r3.1)),(12,(Pd.rep (En.slice En.SItem) r14.1)),(13,(Pd.rep En.bool r14.2))]);refine dp ?_;refine es (wp_seq_k fun K16 H16=>?_);refine rA 2 L fun a s L=>?_;refine cn L h (fun h=>?_) fun h=>?_
   ·refine rs ?_;refine sno En.SItem 77 L fun a s L=>?_;refine sA 1 L fun a s L=>?_;refine es ?_;subst h;exact wp_ret (zgt J L J J)
   ·refine wp_skip (H16 _ _ ?_);obtain ⟨r17,h18,h⟩:=h;refine rs (sA 3 L fun a s L=>?_);refine zco 61 L (zdp h18) opz J J J J fun a s og19 hg_ L=>?_;refine sA 2 L fun a s L=>?_;refine es ?_;subst h;exact wp_ret (zgt J L J J)
theorem next_On_ok {d_:SDesc} {s_:(List SItem)} {cv_:Int} {r_:(List SBranch)} (h:zby d_ s_ cv_ r_):Fn Tryz.prog 55 [(Pd.rep En.SDesc d_),(Pd.rep (En.slice En.SItem) s_),(Pd.rep (En.int .u8) cv_)] (Ro En.SBranch 82 r_):=by
 unfold zby at h;refine zbi Tryz.func55 J Tryz.ntmps55 (by rfl) (by simp) fun s0 a L=>?_;refine rs (sA 1 L fun a s L=>?_);refine sno En.SBranch 82 L fun a s L=>?_;refine es (rs ?_);refine zj8 15 En.str kvStr (En.int .i64) L J J J J fun a s g1 hg_ L=>?_;refine sA 1 L fun a s L=>?_;refine es (rs ?_);refine sno En.SBranch 82 L fun a s L=>?_;refine es (wp_seq_k fun K2 H2=>?_);obtain ⟨r3,h4,h⟩:=h;refine ra 5 (p1 ((zh2 h4).frz)) L fun a s L=>?_;refine wp_block ?_;have J9:∀(many5:(List (Str × Int))) (out7:(List SBranch)) (og6:Option Nat) (og8:Option Nat) (a:Act) (s:St),Has N0 76 s0 a s [(7,(Pd.map En.str kvStr (En.int .i64) s0.w.heap.size og6 many5)),(8,(Pd.row En.SBranch s0.w.heap.size 82 og8 out7))]→Dis og6 og8→((zby.j2 r_) many5 out7)→K2 a s.w:=by
  intro many5 out7 og6 og8 a s L d10 h;unfold zby.j2 at h;show K2 a s.w;refine H2 _ _ (wp_seq_k fun K11 H11=>?_);refine rA 3 L fun a s L=>?_;refine wp_block ?_;have J14:∀(out12:(List SBranch)) (og13:Option Nat) (a:Act) (s:St),Has N0 76 s0 a s [(8,(Pd.row En.SBranch s0.w.heap.size 82 og13 out12))]→((zby.j1 r_) out12)→K11 a s.w:=by
   intro out12 og13 a s L h;unfold zby.j1 at h;show K11 a s.w;refine H11 _ _ ?_;obtain ⟨r15,h16,h⟩:=h;refine rs (sA 1 L fun a s L=>?_);refine zlj 74 (fun v0=>zmo v0 h16) L op (zs:=[.func 92]) (.cons o_isf .nil) J J J J kw fun a s L=>?_;refine es (rA 2 L fun a s L=>?_);subst h;exact wp_ret (zet J L J)
  obtain ⟨k20,h⟩:=h;refine lpn (fun k21 a s=>∃(out17:(List SBranch)) (v19:Int) (og18:Option Nat),Has N0 76 s0 a s [(7,(Pd.map En.str kvStr (En.int .i64) s0.w.heap.size og6 many5)),(8,(Pd.row En.SBranch s0.w.heap.size 82 og18 out17)),(56,(Pi (out7.length:Int))),(57,(Pi v19))]∧Dis og6 og18∧zby.l1 many5 out7 (zby.j1 r_) k21 out17 v19) k20 ⟨out7,0,og8,L.kk,d10,h⟩ ?_;rintro k21 a s ⟨out17,v19,og18,L,d23,h⟩ KL22 hKL22;unfold zby.l1 at h;refine rA 1 L fun a s L=>?_;refine wp_seq_k fun K24 H24=>cn L h (fun h=>?_) fun h=>?_
  ·refine wp_skip (H24 _ _ ?_);refine wp_seq_k fun K25 H25=>wp_block (rA 2 L fun a s L=>?_);obtain ⟨e26,h27,r28,h29,e30,h31,h⟩:=h;refine rg (sl 9 (pp h27 (p1 (zi0 h29))) L fun a s L=>?_);refine sv (zqs op op Ud.h (zey Ud.h) tyv3 J J) L fun a s L=>?_;refine sl 2 (p1 h31) L fun a s L=>?_;refine zg2 (off:=1) 8 L J h31 op op (zi (zk _ _ _) J) Tq.h J J J kw fun s L=>?_;refine en' (H25 _ _ ?_);obtain ⟨h32,h⟩:=h;refine rg (sA 2 L fun a s L=>?_);refine en' ?_;exact hKL22 a s ⟨(out17.set (v19:Int).toNat (e30.1,(zex many5 r28 0))),(v19+1),og18,L.kk,d23,h⟩
  ·refine wp_exit ?_;exact J14 out17 og18 a s (L.kk) h
 obtain ⟨k38,h⟩:=h;refine lpn (fun k39 a s=>∃(many33:(List (Str × Int))) (out35:(List SBranch)) (v37:Int) (og34:Option Nat) (og36:Option Nat),Has N0 76 s0 a s [(2,(Pd.rep (En.int .u8) cv_)),(3,(Pd.ptr En.SDesc d_)),(7,(Pd.map En.str kvStr (En.int .i64) s0.w.heap.size og34 many33)),(8,(Pd.row En.SBranch s0.w.heap.size 82 og36 out35)),(18,(Pd.rep (En.slice En.SBranch) r3)),(19,(Pi (r3.length:Int))),(20,(Pi v37))]∧Dis og34 og36∧zby.l2 d_ cv_ r3 (zby.j2 r_) k39 many33 out35 v37) k38 ⟨([]:(List (Str × Int))),([]:(List SBranch)),0,(some g1),none,L.kk,(Dis.symm Dis.none),h⟩ ?_;rintro k39 a s ⟨many33,out35,v37,og34,og36,L,d41,h⟩ KL40 hKL40;unfold zby.l2 at h;refine rA 1 L fun a s L=>?_;refine wp_seq_k fun K42 H42=>cn L h (fun h=>?_) fun h=>?_
 ·refine wp_skip (H42 _ _ ?_);refine wp_seq_k fun K43 H43=>wp_block ?_;obtain ⟨e44,h45,h⟩:=h;refine rs (sl 2 (p1 h45) L fun a s L=>?_);have lt_d48:=L.rlt 8 rfl;have lt_d47:=L.mlt 7 rfl;refine z8 En.SBranch (z:=([],0)) 10 L zmg J J J J fun a s g46 hg_ L=>?_;have d47:=Dis.newg hg_ lt_d47;have d48:=Dis.newg hg_ lt_d48;refine sB 10 L fun s L=>?_;refine es ?_;obtain ⟨r49,h50,h⟩:=h;refine ra 10 (pp (((next_Read_ok h50).frz2 (Pd.rep_stable _ _)).tup) trivial) L fun a s L=>?_;refine wp_seq_k fun K51 H51=>rA 2 L fun a s L=>?_;refine cn L h (fun h=>?_) fun h=>?_
  ·refine wp_exit ?_;show K43 a s.w;refine H43 _ _ ?_;obtain ⟨h52,h⟩:=h;refine rg (sA 2 L fun a s L=>?_);refine en' ?_;exact hKL40 a s ⟨many33,out35,(v37+1),og34,og36,L.kk,d41,h⟩
  ·refine wp_skip (H51 _ _ ?_);obtain ⟨r53,h54,h⟩:=h;refine ra 3 (p1 (zi0 h54)) L fun a s L=>?_;refine wp_seq_k fun K55 H55=>rs (sA 2 L fun a s L=>?_);refine sv (zqs op op Ud.h (zey Ud.h) tyv3 J J) L fun a s L=>?_;refine sA 1 L fun a s L=>?_;refine es ?_;have J58:∀(out56:(List SBranch)) (og57:Option Nat) (a:Act) (s:St),Has N0 76 s0 a s [(2,(Pd.rep (En.int .u8) cv_)),(3,(Pd.ptr En.SDesc d_)),(7,(Pd.map En.str kvStr (En.int .i64) s0.w.heap.size og34 many33)),(8,(Pd.row En.SBranch s0.w.heap.size 82 og57 out56)),(10,(Pd.box En.SBranch s0.w.heap.size g46 e44)),(13,(Pd.rep En.str r53)),(18,(Pd.rep (En.slice En.SBranch) r3)),(19,(Pi (r3.length:Int))),(20,(Pi v37))]→Dis og34 og57→Dis og34 (some g46)→Dis og57 (some g46)→((zby.j3 (zby.l2 d_ cv_ r3 (zby.j2 r_) k39) many33 v37 e44 r53) out56)→K55 a s.w:=by
    intro out56 og57 a s L d59 d60 d61 h;unfold zby.j3 at h;show K55 a s.w;refine H55 _ _ ?_;obtain ⟨h62,h⟩:=h;refine rg (sA 4 L fun a s L=>?_);refine sv (zqs op op Ud.h (zey Ud.h) tyv3 J J) L fun a s L=>?_;refine sA 4 L fun a s L=>?_;refine zhe L op op op Ud.h (zey Ud.h) (.inl J) J J kw fun s L=>?_;refine en' (H43 _ _ ?_);obtain ⟨h63,h⟩:=h;refine rg (sA 2 L fun a s L=>?_);refine en' ?_;exact hKL40 a s ⟨(zgb many33 r53 (min ((zex many33 r53 0)+e44.2) 2)),out56,(v37+1),og34,og57,L.kk,d59,h⟩
   refine cn L h (fun h=>?_) fun h=>?_
   ·obtain ⟨h64,h⟩:=h;refine rg (sA 2 L fun a s L=>?_);refine sv (zbj (x:=(r49.1,0)) (ps:=[(0,.tmp 41)]) zmg J stt82 (.cons (i:=0) op J (zw (zk _ _ _)) .nil) J J) L fun a s L=>?_;refine sA 1 L fun a s L=>?_;have lt_og65_0:=L.mlt 7 rfl;have lt_og65_1:=L.blt 10 rfl;refine zb4 44 L op op Ud.h Tq.h h64 J J J J ka fun a s og65 hg_ L=>?_;have d66:=Dis.app hg_ (Dis.symm d41) lt_og65_0;have d67:=Dis.app hg_ (Dis.symm d48) lt_og65_1;refine sA 1 L fun a s L=>?_;refine en' ?_;exact J58 (out35++[(r49.1,0)]) og65 a s (L.kk) (Dis.symm d66) (Dis.symm d47) d67 h
   ·refine wp_skip ?_;exact J58 out35 og36 a s (L.kk) d41 (Dis.symm d47) (Dis.symm d48) h
 ·refine wp_exit ?_;exact J9 many33 out35 og34 og36 a s (L.kk) d41 h
theorem next_Ends_ok {d_:SDesc} {s_:(List SItem)} {r_:Int} (h:zda d_ s_ r_):Fn Tryz.prog 63 [(Pd.rep En.SDesc d_),(Pd.rep (En.slice En.SItem) s_)] (Rq (Pi r_)):=by
 unfold zda at h;refine zbi Tryz.func63 J Tryz.ntmps63 (by rfl) (by simp) fun s0 a L=>?_;refine rA 2 L fun a s L=>?_;refine wp_seq_k fun K1 H1=>?_;obtain ⟨r2,h3,h⟩:=h;refine ra 5 (p1 ((zh2 h3).frz)) L fun a s L=>?_;refine wp_block ?_;have J4:∀(a:Act) (s:St),Has N0 22 s0 a s []→((zda.j1 r_))→K1 a s.w:=by
  intro a s L h;unfold zda.j1 at h;show K1 a s.w;refine H1 _ _ (rA 1 L fun a s L=>?_);subst h;exact wp_ret (zdm J L J)
 obtain ⟨k6,h⟩:=h;refine lpn (fun k7 a s=>∃(v5:Int),Has N0 22 s0 a s [(9,(Pd.rep (En.slice En.SBranch) r2)),(10,(Pi (r2.length:Int))),(11,(Pi v5))]∧zda.l1 r2 r_ (zda.j1 r_) k7 v5) k6 ⟨0,L.kk,h⟩ ?_;rintro k7 a s ⟨v5,L,h⟩ KL8 hKL8;unfold zda.l1 at h;refine rA 1 L fun a s L=>?_;refine wp_seq_k fun K9 H9=>cn L h (fun h=>?_) fun h=>?_
 ·refine wp_skip (H9 _ _ ?_);refine wp_seq_k fun K10 H10=>wp_block ?_;obtain ⟨e11,h12,h⟩:=h;refine rs (sl 2 (p1 h12) L fun a s L=>?_);refine z8 En.SBranch (z:=([],0)) 6 L zmg J J J J fun a s g13 hg_ L=>?_;refine sB 6 L fun s L=>?_;refine es (rA 4 L fun a s L=>?_);refine cn L h (fun h=>?_) fun h=>?_
  ·refine rA 3 L fun a s L=>?_;subst h;exact wp_ret (zdm J L J)
  ·refine wp_skip (H10 _ _ ?_);obtain ⟨h14,h⟩:=h;refine rg (sA 2 L fun a s L=>?_);refine en' ?_;exact hKL8 a s ⟨(v5+1),L.kk,h⟩
 ·refine wp_exit ?_;exact J4 a s (L.kk) h
theorem zo3  {r_:(List Cl)} (h:zb5  r_):Fn Tryz.prog 106 [] (Ro En.cls 51 r_):=by
 unfold zb5 at h;refine zbi Tryz.func106 J Tryz.ntmps106 (by rfl) (by simp) fun s0 a L=>?_;refine rs (sno En.cls 51 L fun a s L=>?_);refine es (rs ?_);refine sno En.cls 51 L fun a s L=>?_;refine es (wp_seq_k fun K1 H1=>?_);refine rA 1 L fun a s L=>?_;refine wp_block ?_;have J4:∀(out2:(List Cl)) (og3:Option Nat) (a:Act) (s:St),Has N0 16 s0 a s [(1,(Pd.row En.cls s0.w.heap.size 51 og3 out2))]→((zb5.j1 r_) out2)→K1 a s.w:=by
  intro out2 og3 a s L h;unfold zb5.j1 at h;show K1 a s.w;refine H1 _ _ (rA 2 L fun a s L=>?_);subst h;exact wp_ret (zet J L J)
 obtain ⟨k8,h⟩:=h;refine lpn (fun k9 a s=>∃(out5:(List Cl)) (v7:Int) (og6:Option Nat),Has N0 16 s0 a s [(1,(Pd.row En.cls s0.w.heap.size 51 og6 out5)),(3,(Pi v7))]∧zb5.l1 (zb5.j1 r_) k9 out5 v7) k8 ⟨([]:(List Cl)),0,none,L.kk,h⟩ ?_;rintro k9 a s ⟨out5,v7,og6,L,h⟩ KL10 hKL10;unfold zb5.l1 at h;refine rA 1 L fun a s L=>?_;refine wp_seq_k fun K11 H11=>cn L h (fun h=>?_) fun h=>?_
 ·refine wp_skip (H11 _ _ ?_);refine wp_seq_k fun K12 H12=>wp_block (rA 2 L fun a s L=>?_);obtain ⟨r13,h14,h15,h⟩:=h;refine rg (sl 7 (p1 (zpj h14)) L fun a s L=>?_);refine zb4 13 L op op Ud.h Tq.h h15 J J J J ka fun a s og16 hg_ L=>?_;refine sA 1 L fun a s L=>?_;refine en' (H12 _ _ ?_);obtain ⟨h17,h⟩:=h;refine rg (sA 2 L fun a s L=>?_);refine en' ?_;exact hKL10 a s ⟨(out5++[r13]),(v7+1),og16,L.kk,h⟩
 ·refine wp_exit ?_;exact J4 out5 og6 a s (L.kk) h
theorem zo5 {d_:SDesc} {s_:(List SItem)} {r_:(List Cl)} (h:zbn d_ s_ r_):Fn Tryz.prog 66 [(Pd.rep En.SDesc d_),(Pd.rep (En.slice En.SItem) s_)] (Ro En.cls 51 r_):=by
 unfold zbn at h;refine zbi Tryz.func66 J Tryz.ntmps66 (by rfl) (by simp) fun s0 a L=>?_;refine rs (sA 1 L fun a s L=>?_);refine sno En.cls 51 L fun a s L=>?_;refine es (rs ?_);refine sno En.cls 51 L fun a s L=>?_;refine es (wp_seq_k fun K1 H1=>?_);obtain ⟨r2,h3,h⟩:=h;refine ra 5 (p1 ((zh2 h3).frz)) L fun a s L=>?_;refine wp_block ?_;have J6:∀(out4:(List Cl)) (og5:Option Nat) (a:Act) (s:St),Has N0 64 s0 a s [(5,(Pd.row En.cls s0.w.heap.size 51 og5 out4))]→((zbn.j1 r_) out4)→K1 a s.w:=by
  intro out4 og5 a s L h;unfold zbn.j1 at h;show K1 a s.w;refine H1 _ _ (rA 2 L fun a s L=>?_);subst h;exact wp_ret (zet J L J)
 obtain ⟨k10,h⟩:=h;refine lpn (fun k11 a s=>∃(out7:(List Cl)) (v9:Int) (og8:Option Nat),Has N0 64 s0 a s [(2,(Pd.ptr En.SDesc d_)),(5,(Pd.row En.cls s0.w.heap.size 51 og8 out7)),(12,(Pd.rep (En.slice En.SBranch) r2)),(13,(Pi (r2.length:Int))),(14,(Pi v9))]∧zbn.l1 d_ r2 (zbn.j1 r_) k11 out7 v9) k10 ⟨([]:(List Cl)),0,none,L.kk,h⟩ ?_;rintro k11 a s ⟨out7,v9,og8,L,h⟩ KL12 hKL12;unfold zbn.l1 at h;refine rA 1 L fun a s L=>?_;refine wp_seq_k fun K13 H13=>cn L h (fun h=>?_) fun h=>?_
 ·refine wp_skip (H13 _ _ ?_);refine wp_seq_k fun K14 H14=>wp_block ?_;obtain ⟨e15,h16,h⟩:=h;refine rs (sl 2 (p1 h16) L fun a s L=>?_);have lt_d18:=L.rlt 5 rfl;refine z8 En.SBranch (z:=([],0)) 7 L zmg J J J J fun a s g17 hg_ L=>?_;have d18:=Dis.newg hg_ lt_d18;refine sB 7 L fun s L=>?_;refine es (wp_seq_k fun K19 H19=>?_);refine rA 4 L fun a s L=>?_;refine cn L h (fun h=>?_) fun h=>?_
  ·refine wp_exit ?_;show K14 a s.w;refine H14 _ _ ?_;obtain ⟨h20,h⟩:=h;refine rg (sA 2 L fun a s L=>?_);refine en' ?_;exact hKL12 a s ⟨out7,(v9+1),og8,L.kk,h⟩
  ·refine wp_skip (H19 _ _ ?_);obtain ⟨e21,h22,h⟩:=h;refine rs (sl 4 (p1 h22) L fun a s L=>?_);have lt_d25:=L.blt 7 rfl;have lt_d24:=L.rlt 5 rfl;refine z8 En.SItem (z:=(0,0,0,0)) 8 L zeu J J J J fun a s g23 hg_ L=>?_;have d24:=Dis.newg hg_ lt_d24;have d25:=Dis.newg hg_ lt_d25;refine sB 8 L fun s L=>?_;refine es ?_;obtain ⟨e26,h27,h⟩:=h;refine rs (sl 6 (p1 h27) L fun a s L=>?_);have lt_d30:=L.blt 8 rfl;have lt_d29:=L.rlt 5 rfl;refine z8 En.SNode (z:=(0,0,0,0,0,(0#256),([]:Str))) 9 L zku J J J J fun a s g28 hg_ L=>?_;have d29:=Dis.newg hg_ lt_d29;have d30:=Dis.newg hg_ lt_d30;replace L:=L.dr (some g17);refine sB 9 L fun s L=>?_;refine es (wp_block ?_);refine rA 4 L fun a s L=>?_;refine cn L h (fun h=>?_) fun h=>?_
   ·obtain ⟨c31,h32,c33,h34,r35,h36,h37,h⟩:=h;refine rdx 13 (pp h32 (pp h34 (p1 (zpj h36)))) L fun a s L=>?_;refine zb4 52 L op op Ud.h Tq.h h37 J J J J ka fun a s og38 hg_ L=>?_;refine sA 1 L fun a s L=>?_;refine en' (H14 _ _ ?_);obtain ⟨h39,h⟩:=h;refine rg (sA 2 L fun a s L=>?_);refine en' ?_;exact hKL12 a s ⟨(out7++[r35]),(v9+1),og38,L.kk,h⟩
   ·refine rA 4 L fun a s L=>?_;refine cn L h (fun h=>?_) fun h=>?_
    ·obtain ⟨h40,h⟩:=h;refine rg (sA 4 L fun a s L=>?_);refine zb4 61 L op op Ud.h Tq.h h40 J J J J ka fun a s og41 hg_ L=>?_;refine sA 1 L fun a s L=>?_;refine en' (H14 _ _ ?_);obtain ⟨h42,h⟩:=h;refine rg (sA 2 L fun a s L=>?_);refine en' ?_;exact hKL12 a s ⟨(out7++[e26.2.2.2.2.2.1]),(v9+1),og41,L.kk,h⟩
    ·obtain ⟨r43,h44,h45,h⟩:=h;refine rg (sl 2 (p1 ((zo3 h44).frz)) L fun a s L=>?_);refine zb4 34 L op op Ud.h Tq.h h45 J J J J ka fun a s og46 hg_ L=>?_;refine sA 1 L fun a s L=>?_;refine en' (H14 _ _ ?_);obtain ⟨h47,h⟩:=h;refine rg (sA 2 L fun a s L=>?_);refine en' ?_;exact hKL12 a s ⟨(out7++r43),(v9+1),og46,L.kk,h⟩
 ·refine wp_exit ?_;exact J6 out7 og8 a s (L.kk) h
theorem zr4 {d_:SDesc} {s_:(List SItem)} {cv_:Int} {r_:((List SItem) × Bool)} (h:zkd d_ s_ cv_ r_):Fn Tryz.prog 101 [(Pd.rep En.SDesc d_),(Pd.rep (En.slice En.SItem) s_),(Pd.rep (En.int .u8) cv_)] (Ro2 En.SItem 77 r_.1 (Pd.rep En.bool r_.2)):=by
 unfold zkd at h;refine zbi Tryz.func101 J Tryz.ntmps101 (by rfl) (by simp) fun s0 a L=>?_;refine rs (sA 1 L fun a s L=>?_);refine sno En.SItem 77 L fun a s L=>?_;refine sA 1 L fun a s L=>?_;refine es (wp_seq_k fun K1 H1=>?_);refine rA 3 L fun a s L=>?_;refine cn L h (fun h=>?_) fun h=>?_
 ·refine rs ?_;refine sno En.SItem 77 L fun a s L=>?_;refine sA 1 L fun a s L=>?_;refine es ?_;subst h;exact wp_ret (zgt J L J J)
 ·refine wp_skip (H1 _ _ ?_);obtain ⟨h2,r3,h4,h⟩:=h;refine ra 8 (pp (((zqa h4).frz2 (Pd.rep_stable _ _)).tup) trivial) L fun a s L=>?_;refine wp_seq_k fun K5 H5=>rA 2 L fun a s L=>?_;refine cn L h (fun h=>?_) fun h=>?_
  ·refine rs ?_;refine sno En.SItem 77 L fun a s L=>?_;refine sA 1 L fun a s L=>?_;refine es ?_;subst h;exact wp_ret (zgt J L J J)
  ·refine wp_skip (H5 _ _ ?_);obtain ⟨e6,h7,h⟩:=h;refine rs (sl 3 (p1 h7) L fun a s L=>?_);refine z8 En.SItem (z:=(0,0,0,0)) 10 L zeu J J J J fun a s g8 hg_ L=>?_;refine sB 10 L fun s L=>?_;refine es ?_;obtain ⟨e9,h10,h⟩:=h;refine rs (sl 6 (p1 h10) L fun a s L=>?_);have lt_d12:=L.blt 10 rfl;refine z8 En.SNode (z:=(0,0,0,0,0,(0#256),([]:Str))) 11 L zku J J J J fun a s g11 hg_ L=>?_;have d12:=Dis.newg hg_ lt_d12;refine sB 11 L fun s L=>?_;refine es (rs ?_);refine sA 2 L fun a s L=>?_;refine sv (zbj (x:=(1,e9.2.1,0,0)) (ps:=[(0,.const (.int .i64 1)),(1,.tmp 35)]) zeu J zim (.cons (i:=0) op J (zw (zk _ _ _)) (.cons (i:=1) op J (zi (zw (zk _ _ _)) J) .nil)) J J) L fun a s L=>?_;have lt_d15:=L.blt 11 rfl;have lt_d14:=L.blt 10 rfl;refine z8 En.SItem (z:=(0,0,0,0)) 12 L zeu J J J J fun a s g13 hg_ L=>?_;have d14:=Dis.newg hg_ lt_d14;have d15:=Dis.newg hg_ lt_d15;refine sB 12 L fun s L=>?_;refine es (rs ?_);refine sno En.SItem 77 L fun a s L=>?_;refine es (wp_seq_k fun K16 H16=>?_);refine wp_block (rA 4 L fun a s L=>?_);refine cn L h (fun h=>?_) fun h=>?_
   ·refine wp_seq_k fun K17 H17=>?_;obtain ⟨c18,h19,h⟩:=h;refine ra 7 (p1 h19) L fun a s L=>?_;refine cn L h (fun h=>?_) fun h=>?_
    ·refine rs ?_;refine sno En.SItem 77 L fun a s L=>?_;refine sA 1 L fun a s L=>?_;refine es ?_;subst h;exact wp_ret (zgt J L J J)
    ·refine wp_skip (H17 _ _ ?_);obtain ⟨h20,b21,h22,h⟩:=h;refine ra 7 (p1 h22) L fun a s L=>?_;refine cn L h (fun h=>?_) fun h=>?_
     ·obtain ⟨h23,h⟩:=h;refine rg (sA 5 L fun a s L=>?_);refine sv (zbj (x:=(3,e6.2.1,e6.2.2.1+1,0)) (ps:=[(0,.const (.int .i64 3)),(1,.tmp 56),(2,.tmp 59)]) zeu J zim (.cons (i:=0) op J (zw (zk _ _ _)) (.cons (i:=1) op J (zi (zw (zk _ _ _)) J) (.cons (i:=2) op J (zi (zi (zw (zk _ _ _)) J) J) .nil))) J J) L fun a s L=>?_;have lt_d27:=L.blt 12 rfl;have lt_d26:=L.blt 11 rfl;have lt_d25:=L.blt 10 rfl;refine zd5 (xs:=[.tmp 60]) 61 L (.cons op .nil) Ud.h Tq.h J J (by decide) J J J J fun a s g24 hg_ L=>?_;have d25:=Dis.newg hg_ lt_d25;have d26:=Dis.newg hg_ lt_d26;have d27:=Dis.newg hg_ lt_d27;refine sA 1 L fun a s L=>?_;refine en' (H16 _ _ ?_);obtain ⟨h28,h⟩:=h;refine rs (sA 2 L fun a s L=>?_);refine zb4 102 L op op Ud.h Tq.h h28 J J J J ka fun a s og29 hg_ L=>?_;refine sA 2 L fun a s L=>?_;refine es ?_;subst h;exact wp_ret (zgt J L J J)
     ·refine wp_skip (H16 _ _ ?_);obtain ⟨h30,h⟩:=h;refine rs (sA 2 L fun a s L=>?_);refine zb4 102 L op op Ud.h Tq.h h30 J J J J ka fun a s og31 hg_ L=>?_;refine sA 2 L fun a s L=>?_;refine es ?_;subst h;exact wp_ret (zgt J L J J)
   ·refine rA 4 L fun a s L=>?_;refine cn L h (fun h=>?_) fun h=>?_
    ·obtain ⟨h32,h33,h⟩:=h;refine rg (sA 7 L fun a s L=>?_);refine sv (zbj (x:=(5,0,(256*e6.2.2.1)+cv_,0)) (ps:=[(0,.const (.int .i64 5)),(2,.tmp 72)]) zeu J zim (.cons (i:=0) op J (zw (zk _ _ _)) (.cons (i:=2) op J (zi (zi (zw (zk _ _ _)) J) J) .nil)) J J) L fun a s L=>?_;have lt_d37:=L.blt 12 rfl;have lt_d36:=L.blt 11 rfl;have lt_d35:=L.blt 10 rfl;refine zd5 (xs:=[.tmp 66,.tmp 73]) 74 L (.cons op (.cons op .nil)) Ud.h Tq.h J J (by decide) J J J J fun a s g34 hg_ L=>?_;have d35:=Dis.newg hg_ lt_d35;have d36:=Dis.newg hg_ lt_d36;have d37:=Dis.newg hg_ lt_d37;refine sA 1 L fun a s L=>?_;refine en' (H16 _ _ ?_);obtain ⟨h38,h⟩:=h;refine rs (sA 2 L fun a s L=>?_);refine zb4 102 L op op Ud.h Tq.h h38 J J J J ka fun a s og39 hg_ L=>?_;refine sA 2 L fun a s L=>?_;refine es ?_;subst h;exact wp_ret (zgt J L J J)
    ·refine rA 4 L fun a s L=>?_;refine cn L h (fun h=>?_) fun h=>?_
     ·refine rg ?_;refine sA 3 L fun a s L=>?_;refine sv (zbj (x:=(5,0,cv_,0)) (ps:=[(0,.const (.int .i64 5)),(2,.tmp 81)]) zeu J zim (.cons (i:=0) op J (zw (zk _ _ _)) (.cons (i:=2) op J (zi (zi (zw (zk _ _ _)) J) J) .nil)) J J) L fun a s L=>?_;have lt_d43:=L.blt 12 rfl;have lt_d42:=L.blt 11 rfl;have lt_d41:=L.blt 10 rfl;refine zd5 (xs:=[.tmp 79,.tmp 82]) 83 L (.cons op (.cons op .nil)) Ud.h Tq.h J J (by decide) J J J J fun a s g40 hg_ L=>?_;have d41:=Dis.newg hg_ lt_d41;have d42:=Dis.newg hg_ lt_d42;have d43:=Dis.newg hg_ lt_d43;refine sA 1 L fun a s L=>?_;refine en' (H16 _ _ ?_);obtain ⟨h44,h⟩:=h;refine rs (sA 2 L fun a s L=>?_);refine zb4 102 L op op Ud.h Tq.h h44 J J J J ka fun a s og45 hg_ L=>?_;refine sA 2 L fun a s L=>?_;refine es ?_;subst h;exact wp_ret (zgt J L J J)
     ·refine rA 4 L fun a s L=>?_;refine cn L h (fun h=>?_) fun h=>?_
      ·refine rg ?_;refine sA 4 L fun a s L=>?_;refine sv (zbj (x:=(4,e6.2.1,cv_,0)) (ps:=[(0,.const (.int .i64 4)),(1,.tmp 89),(2,.tmp 91)]) zeu J zim (.cons (i:=0) op J (zw (zk _ _ _)) (.cons (i:=1) op J (zi (zw (zk _ _ _)) J) (.cons (i:=2) op J (zi (zi (zw (zk _ _ _)) J) J) .nil))) J J) L fun a s L=>?_;have lt_d49:=L.blt 12 rfl;have lt_d48:=L.blt 11 rfl;have lt_d47:=L.blt 10 rfl;refine zd5 (xs:=[.tmp 92]) 93 L (.cons op .nil) Ud.h Tq.h J J (by decide) J J J J fun a s g46 hg_ L=>?_;have d47:=Dis.newg hg_ lt_d47;have d48:=Dis.newg hg_ lt_d48;have d49:=Dis.newg hg_ lt_d49;refine sA 1 L fun a s L=>?_;refine en' (H16 _ _ ?_);obtain ⟨h50,h⟩:=h;refine rs (sA 2 L fun a s L=>?_);refine zb4 102 L op op Ud.h Tq.h h50 J J J J ka fun a s og51 hg_ L=>?_;refine sA 2 L fun a s L=>?_;refine es ?_;subst h;exact wp_ret (zgt J L J J)
      ·obtain ⟨r52,h53,h⟩:=h;refine ra 6 (p1 (zhl h53)) L fun a s L=>?_;refine cn L h (fun h=>?_) fun h=>?_
       ·refine rs ?_;refine sno En.SItem 77 L fun a s L=>?_;refine sA 1 L fun a s L=>?_;refine es ?_;subst h;exact wp_ret (zgt J L J J)
       ·refine wp_skip (H16 _ _ ?_);obtain ⟨h54,h⟩:=h;refine rs (sA 2 L fun a s L=>?_);refine zb4 102 L op op Ud.h Tq.h h54 J J J J ka fun a s og55 hg_ L=>?_;refine sA 2 L fun a s L=>?_;refine es ?_;subst h;exact wp_ret (zgt J L J J)
theorem ref15_On_ok {d_:SDesc} {s_:(List SItem)} {cv_:Int} {r_:(List SBranch)} (h:zde d_ s_ cv_ r_):Fn Tryz.prog 59 [(Pd.rep En.SDesc d_),(Pd.rep (En.slice En.SItem) s_),(Pd.rep (En.int .u8) cv_)] (Ro En.SBranch 82 r_):=by
 unfold zde at h;refine zbi Tryz.func59 J Tryz.ntmps59 (by rfl) (by simp) fun s0 a L=>?_;refine rs (sA 1 L fun a s L=>?_);refine sno En.SBranch 82 L fun a s L=>?_;refine es ?_;obtain ⟨r1,h2,h⟩:=h;refine ra 4 (p1 (zhu h2)) L fun a s L=>?_;refine rs (sno En.SBranch 82 L fun a s L=>?_);refine es (wp_seq_k fun K3 H3=>?_);refine rA 1 L fun a s L=>?_;refine wp_block ?_;have J6:∀(out4:(List SBranch)) (og5:Option Nat) (a:Act) (s:St),Has N0 42 s0 a s [(8,(Pd.row En.SBranch s0.w.heap.size 82 og5 out4))]→((zde.j1 r_) out4)→K3 a s.w:=by
  intro out4 og5 a s L h;unfold zde.j1 at h;show K3 a s.w;refine H3 _ _ (rA 2 L fun a s L=>?_);subst h;exact wp_ret (zet J L J)
 obtain ⟨k10,h⟩:=h;refine lpn (fun k11 a s=>∃(out7:(List SBranch)) (i9:Int) (og8:Option Nat),Has N0 42 s0 a s [(2,(Pd.rep (En.int .u8) cv_)),(3,(Pd.ptr En.SDesc d_)),(7,(Pd.rep (En.slice En.SBranch) r1)),(8,(Pd.row En.SBranch s0.w.heap.size 82 og8 out7)),(9,(Pi i9))]∧zde.l1 d_ cv_ r1 (zde.j1 r_) k11 out7 i9) k10 ⟨([]:(List SBranch)),0,none,L.kk,h⟩ ?_;rintro k11 a s ⟨out7,i9,og8,L,h⟩ KL12 hKL12;unfold zde.l1 at h;refine wp_seq_k fun K13 H13=>rA 4 L fun a s L=>?_;refine cn L h (fun h=>?_) fun h=>?_
 ·refine wp_skip (H13 _ _ ?_);refine wp_seq_k fun K14 H14=>wp_block ?_;obtain ⟨e15,h16,r17,h18,h⟩:=h;refine wp_seq (rdx 13 (pp h16 (pp (((zr4 h18).frz2 (Pd.rep_stable _ _)).tup) trivial)) L fun a s L=>?_);refine es (rA 1 L fun a s L=>?_);refine cn L h (fun h=>?_) fun h=>?_
  ·refine fzc 8 L fun s L=>?_;obtain ⟨e19,h20,r21,h22,h⟩:=h;refine rg (sl 7 (p1 h20) L fun a s L=>?_);refine zco 40 L (zjj h22) opz J J J J fun a s og23 hg_ L=>?_;refine sA 1 L fun a s L=>?_;refine en' (H14 _ _ ?_);obtain ⟨h24,h⟩:=h;refine rg (sA 3 L fun a s L=>?_);refine en' ?_;exact hKL12 a s ⟨r21,(i9+1),og23,L.kk,h⟩
  ·refine wp_skip (H14 _ _ ?_);obtain ⟨h25,h⟩:=h;refine rg (sA 3 L fun a s L=>?_);refine en' ?_;exact hKL12 a s ⟨out7,(i9+1),og8,L.kk,h⟩
 ·refine wp_exit ?_;exact J6 out7 og8 a s (L.kk) h
theorem zr6 {d_:SDesc} {s_:(List SItem)} {r_:Int} (h:zct d_ s_ r_):Fn Tryz.prog 64 [(Pd.rep En.SDesc d_),(Pd.rep (En.slice En.SItem) s_)] (Rq (Pi r_)):=by
 unfold zct at h;refine zbi Tryz.func64 J Tryz.ntmps64 (by rfl) (by simp) fun s0 a L=>?_;refine rA 2 L fun a s L=>?_;obtain ⟨r1,h2,h⟩:=h;refine ra 4 (p1 (zhu h2)) L fun a s L=>?_;refine wp_seq_k fun K3 H3=>rA 1 L fun a s L=>?_;refine wp_block ?_;have J4:∀(a:Act) (s:St),Has N0 28 s0 a s []→((zct.j1 r_))→K3 a s.w:=by
  intro a s L h;unfold zct.j1 at h;show K3 a s.w;refine H3 _ _ (rA 1 L fun a s L=>?_);subst h;exact wp_ret (zdm J L J)
 obtain ⟨k6,h⟩:=h;refine lpn (fun k7 a s=>∃(i5:Int),Has N0 28 s0 a s [(5,(Pd.rep (En.slice En.SBranch) r1)),(6,(Pi i5))]∧zct.l1 r1 r_ (zct.j1 r_) k7 i5) k6 ⟨0,L.kk,h⟩ ?_;rintro k7 a s ⟨i5,L,h⟩ KL8 hKL8;unfold zct.l1 at h;refine wp_seq_k fun K9 H9=>rA 4 L fun a s L=>?_;refine cn L h (fun h=>?_) fun h=>?_
 ·refine wp_skip (H9 _ _ ?_);refine wp_seq_k fun K10 H10=>wp_block ?_;obtain ⟨e11,h12,h⟩:=h;refine ra 7 (p1 h12) L fun a s L=>?_;refine cn L h (fun h=>?_) fun h=>?_
  ·obtain ⟨e13,h14,h⟩:=h;refine ra 6 (p1 h14) L fun a s L=>?_;subst h;exact wp_ret (zdm J L J)
  ·refine wp_skip (H10 _ _ ?_);obtain ⟨h15,h⟩:=h;refine rg (sA 3 L fun a s L=>?_);refine en' ?_;exact hKL8 a s ⟨(i5+1),L.kk,h⟩
 ·refine wp_exit ?_;exact J4 a s (L.kk) h
theorem znp {d_:SDesc} {s_:(List SItem)} {r_:(List Cl)} (h:zu d_ s_ r_):Fn Tryz.prog 67 [(Pd.rep En.SDesc d_),(Pd.rep (En.slice En.SItem) s_)] (Ro En.cls 51 r_):=by
 unfold zu at h;refine zbi Tryz.func67 J Tryz.ntmps67 (by rfl) (by simp) fun s0 a L=>?_;refine rs (sA 1 L fun a s L=>?_);refine sno En.cls 51 L fun a s L=>?_;refine es ?_;obtain ⟨r1,h2,h⟩:=h;refine ra 4 (p1 (zhu h2)) L fun a s L=>?_;refine rs (sno En.cls 51 L fun a s L=>?_);refine es (wp_seq_k fun K3 H3=>?_);refine rA 1 L fun a s L=>?_;refine wp_block ?_;have J6:∀(out4:(List Cl)) (og5:Option Nat) (a:Act) (s:St),Has N0 83 s0 a s [(6,(Pd.row En.cls s0.w.heap.size 51 og5 out4))]→((zu.j1 r_) out4)→K3 a s.w:=by
  intro out4 og5 a s L h;unfold zu.j1 at h;show K3 a s.w;refine H3 _ _ (rA 2 L fun a s L=>?_);subst h;exact wp_ret (zet J L J)
 obtain ⟨k10,h⟩:=h;refine lpn (fun k11 a s=>∃(out7:(List Cl)) (i9:Int) (og8:Option Nat),Has N0 83 s0 a s [(2,(Pd.ptr En.SDesc d_)),(5,(Pd.rep (En.slice En.SBranch) r1)),(6,(Pd.row En.cls s0.w.heap.size 51 og8 out7)),(7,(Pi i9))]∧zu.l1 d_ r1 (zu.j1 r_) k11 out7 i9) k10 ⟨([]:(List Cl)),0,none,L.kk,h⟩ ?_;rintro k11 a s ⟨out7,i9,og8,L,h⟩ KL12 hKL12;unfold zu.l1 at h;refine wp_seq_k fun K13 H13=>rA 4 L fun a s L=>?_;refine cn L h (fun h=>?_) fun h=>?_
 ·refine wp_skip (H13 _ _ ?_);refine wp_seq_k fun K14 H14=>wp_block (wp_seq_k fun K15 H15=>?_);obtain ⟨e16,h17,h⟩:=h;refine ra 7 (p1 h17) L fun a s L=>?_;refine cn L h (fun h=>?_) fun h=>?_
  ·refine wp_exit ?_;show K14 a s.w;refine H14 _ _ ?_;obtain ⟨h18,h⟩:=h;refine rg (sA 3 L fun a s L=>?_);refine en' ?_;exact hKL12 a s ⟨out7,(i9+1),og8,L.kk,h⟩
  ·refine wp_skip (H15 _ _ ?_);obtain ⟨e19,h20,e21,h22,h⟩:=h;refine rs (sl 7 (pp h20 (p1 h22)) L fun a s L=>?_);have lt_d24:=L.rlt 6 rfl;refine z8 En.SItem (z:=(0,0,0,0)) 8 L zeu J J J J fun a s g23 hg_ L=>?_;have d24:=Dis.newg hg_ lt_d24;refine sB 8 L fun s L=>?_;refine es ?_;obtain ⟨e25,h26,h⟩:=h;refine rs (sl 6 (p1 h26) L fun a s L=>?_);have lt_d29:=L.blt 8 rfl;have lt_d28:=L.rlt 6 rfl;refine z8 En.SNode (z:=(0,0,0,0,0,(0#256),([]:Str))) 9 L zku J J J J fun a s g27 hg_ L=>?_;have d28:=Dis.newg hg_ lt_d28;have d29:=Dis.newg hg_ lt_d29;refine sB 9 L fun s L=>?_;refine es (rA 3 L fun a s L=>?_);refine cn L h (fun h=>?_) fun h=>?_
   ·obtain ⟨c30,h31,c32,h33,r34,h35,h36,h⟩:=h;refine rdx 13 (pp h31 (pp h33 (p1 (zjl h35)))) L fun a s L=>?_;refine zb4 56 L op op Ud.h Tq.h h36 J J J J ka fun a s og37 hg_ L=>?_;refine sA 1 L fun a s L=>?_;refine en' (H14 _ _ ?_);obtain ⟨h38,h⟩:=h;refine rg (sA 3 L fun a s L=>?_);refine en' ?_;exact hKL12 a s ⟨(out7++[r34]),(i9+1),og37,L.kk,h⟩
   ·refine rA 8 L fun a s L=>?_;refine cn L h (fun h=>?_) fun h=>?_
    ·obtain ⟨h39,h⟩:=h;refine rg (sA 4 L fun a s L=>?_);refine zb4 69 L op op Ud.h Tq.h h39 J J J J ka fun a s og40 hg_ L=>?_;refine sA 1 L fun a s L=>?_;refine en' (H14 _ _ ?_);obtain ⟨h41,h⟩:=h;refine rg (sA 3 L fun a s L=>?_);refine en' ?_;exact hKL12 a s ⟨(out7++[e25.2.2.2.2.2.1]),(i9+1),og40,L.kk,h⟩
    ·refine rA 1 L fun a s L=>?_;refine wp_block ?_;have J44:∀(out42:(List Cl)) (og43:Option Nat) (a:Act) (s:St),Has N0 83 s0 a s [(2,(Pd.ptr En.SDesc d_)),(5,(Pd.rep (En.slice En.SBranch) r1)),(6,(Pd.row En.cls s0.w.heap.size 51 og43 out42)),(7,(Pi i9))]→((zu.j2 (zu.l1 d_ r1 (zu.j1 r_) k11) i9) out42)→K14 a s.w:=by
      intro out42 og43 a s L h;unfold zu.j2 at h;show K14 a s.w;refine H14 _ _ ?_;obtain ⟨h45,h⟩:=h;refine rg (sA 3 L fun a s L=>?_);refine en' ?_;exact hKL12 a s ⟨out42,(i9+1),og43,L.kk,h⟩
     obtain ⟨k49,h⟩:=h;refine lpn (fun k50 a s=>∃(out46:(List Cl)) (c48:Int) (og47:Option Nat),Has N0 83 s0 a s [(2,(Pd.ptr En.SDesc d_)),(5,(Pd.rep (En.slice En.SBranch) r1)),(6,(Pd.row En.cls s0.w.heap.size 51 og47 out46)),(7,(Pi i9)),(10,(Pi c48))]∧zu.l2 (zu.j2 (zu.l1 d_ r1 (zu.j1 r_) k11) i9) k50 out46 c48) k49 ⟨out7,0,og8,L.kk,h⟩ ?_;rintro k50 a s ⟨out46,c48,og47,L,h⟩ KL51 hKL51;unfold zu.l2 at h;refine wp_seq_k fun K52 H52=>rA 2 L fun a s L=>?_;refine cn L h (fun h=>?_) fun h=>?_
     ·refine wp_skip (H52 _ _ ?_);refine wp_seq_k fun K53 H53=>wp_block ?_;obtain ⟨r54,h55,h56,h⟩:=h;refine rg (sl 7 (p1 (zjl h55)) L fun a s L=>?_);refine zb4 81 L op op Ud.h Tq.h h56 J J J J ka fun a s og57 hg_ L=>?_;refine sA 1 L fun a s L=>?_;refine en' (H53 _ _ ?_);obtain ⟨h58,h⟩:=h;refine rg (sA 3 L fun a s L=>?_);refine en' ?_;exact hKL51 a s ⟨(out46++[r54]),(c48+1),og57,L.kk,h⟩
     ·refine wp_exit ?_;exact J44 out46 og47 a s (L.kk) h
 ·refine wp_exit ?_;exact J6 out7 og8 a s (L.kk) h
open Go.Shelf Go.Sort
theorem put_block1 {β:Type} [Inhabited β] (enc:β→Value) {w:World} {b:Nat} {cur:Array Value} {te:TypeId} {F:Array β} (m:Nat) (os:Array Obj) (hb:w.heap[b]?=some (.cells cur te (0,0))):
  (Sort.grow (putRow enc (Sort.ahead w m) b 0 F) os).heap[b]?=some (.cells (putCells enc 0 F cur) te (0,0)):=by
 have hlt:=(Array.getElem?_eq_some_iff.1 hb).1;unfold Sort.grow putRow mapBlock;simp only;rw [Array.getElem?_append_left (by simpa [Sort.ahead] using hlt),Array.getElem?_modify,if_pos rfl];show Option.map _ (w.heap[b]?)=_;rw [hb];rfl
theorem zq1 {β:Type} [Inhabited β] (enc:β→Value) {w:World} {b c:Nat} {F:Array β} (m:Nat) (os:Array Obj) (hc:c<w.heap.size) (hne:c≠b):(Sort.grow (putRow enc (Sort.ahead w m) b 0 F) os).heap[c]?=w.heap[c]?:=by
 unfold Sort.grow putRow mapBlock;simp only;rw [Array.getElem?_append_left (by simpa [Sort.ahead] using hc),Array.getElem?_modify,if_neg (Ne.symm hne)];rfl
theorem size1 {β:Type} [Inhabited β] (enc:β→Value) (w:World) (b m:Nat) (F:Array β) (os:Array Obj):w.heap.size≤(sortWorld enc w b 0 m F os).heap.size:=by
 unfold sortWorld Sort.grow putRow mapBlock;simp [Sort.ahead]
theorem fm_sort1 {P:Program} {ρ:Ren} (L:Go.Proofs.SlLaysF.n6 P ρ) (L0:Go.Proofs.SlLaysF0.n6 P ρ) {α:Type} {E:En α} {E':VD.En α} {te:TypeId} {g:FuncId} {cf:α→α→Int} (hE:Ty P te E) (hA:E.agg=false) (hA':E'.agg=false) (hR:∀{w S cs x},E.R w S cs x→E'.R w S cs x)
  (hf:∀(args:Array Value) (w:World),(callFunc (ρ.f 6) args).run P w = .ok (.enter (ρ.f 6) args) w) (eg:∀(args:Array Value) (w:World),(callFunc g args).run P w = .ok (.enter g args) w) (hO:SWO (Go.Proofs.ltOf cf)) {xs:List α} (hlen:xs.length≤2147483648)
  (hc:∀x∈xs,∀y∈xs,VD.Fn P g [VD.Pd.rep E' x,VD.Pd.rep E' y] (VD.Rq (VD.Pd.rep (VD.En.int .i64) (cf x y)))) (v0:Value):
  Fm P (ρ.f 6) (fun b=>v0.ownBlock=some b) [Pd.prow E te v0 xs,Pd.is (.func (.func g) #[] #[])] (fun _ s' _=>∃ys:List α,ys.Perm xs∧ys.Pairwise (fun a b=>¬ cf b a<0)∧(Pd.prow E te v0 ys).p s' v0):=by
 refine ⟨hf,fun s vs hgl hX hv=>?_⟩
 match vs,hv with
 | [v,fv],⟨⟨hv0,hrow⟩,hfv,_⟩=>
 have hfv:fv = .func (.func g) #[] #[]:=hfv;subst hfv;subst hv0;obtain ⟨h1,h2,h3,css,hEl,how⟩:=hrow
 by_cases hx0:xs=[]
 ·subst hx0;obtain ⟨p,cap,rfl⟩:∃p cap,v = .slice p 0 cap:=by
   rcases how.2 with ⟨e,_⟩ | ⟨b,cap,cur,e,_⟩
   ·exact ⟨none,0,e⟩
   ·exact ⟨_,cap,e⟩
  refine (Go.Proofs.AnyF.slices_SortFunc_none L0 p cap _ s.w).mono fun e w' ⟨he,hw⟩=>?_;subst he;subst hw;exact ⟨_,s,rfl,rfl,Fr.refl hX,[],.refl _,List.Pairwise.nil,rfl,h1,h2,h3,css,hEl,how⟩
 have hpos:0<xs.length:=List.length_pos_iff.2 hx0;rcases how.2 with ⟨e,hn⟩ | ⟨b,cap,cur,hvb,hN,hgb,hnc,hcm,hcs,htk⟩
 ·omega
 subst hvb;have hXb:s.X b:=h2 b rfl;have hblt:b<s.w.heap.size:=s.lt b hXb;have hsz1:E.sz=1:=E.sc hA
 let α':={p:List Value × α // E.R s.w (zfc s) p.1 p.2∧p.2∈xs}
 have hel:∀i:Fin xs.length,E.R s.w (zfc s) (css[i.1]'(by rw [hEl.1];exact i.2)) xs[i.1]∧xs[i.1]∈xs:=fun i=>⟨hEl.2 i.1 _ _ (List.getElem?_eq_getElem _) (List.getElem?_eq_getElem _),List.getElem_mem _⟩
 let d:Array α':=Array.ofFn fun i:Fin xs.length=>⟨(css[i.1]'(by rw [hEl.1];exact i.2),xs[i.1]),hel i⟩
 have hdn:d.size=xs.length:=by simp [d]
 haveI:Inhabited α':=⟨d[0]'(by rw [hdn];exact hpos)⟩
 let enc:α'→Value:=fun p=>p.1.1.headD undef
 have hsing:∀p:α',p.1.1=[enc p]:=fun p=>by
  have hl:=E.len p.2.1;rw [hsz1] at hl;obtain ⟨u,hu⟩:=List.length_eq_one_iff.1 hl;show p.1.1=[p.1.1.headD undef];rw [hu];rfl
 have hone:OneCell enc:=fun x=>E.one x.2.1 (enc x) (by rw [hsing x];simp);have hdl:d.toList.map (fun p=>p.1.1)=css:=by
  apply List.ext_getElem?;intro i;simp only [d,List.getElem?_map,Array.toList_ofFn,List.getElem?_ofFn]
  by_cases hi:i<xs.length
  ·rw [dif_pos hi,Option.map_some,List.getElem?_eq_getElem (by rw [hEl.1];exact hi)]
  ·rw [dif_neg hi,Option.map_none,List.getElem?_eq_none (by rw [hEl.1];omega)]
 have hdx:d.toList.map (fun p=>p.1.2)=xs:=by
  apply List.ext_getElem?;intro i;simp only [d,List.getElem?_map,Array.toList_ofFn,List.getElem?_ofFn]
  by_cases hi:i<xs.length
  ·rw [dif_pos hi,Option.map_some,List.getElem?_eq_getElem hi]
  ·rw [dif_neg hi,Option.map_none,List.getElem?_eq_none (by omega)]
 have hfl:∀q:List α',(q.map (fun p=>p.1.1)).flatten=q.map enc:=fun q=>by
  induction q with
  | nil=>rfl
  | cons p q ih=>rw [List.map_cons,List.flatten_cons,ih,hsing p];rfl
 have hflat:∀(q:Array α') (j:Nat),j<q.size→(q.toList.map (fun p=>p.1.1)).flatten[j]?=some (enc q[j]!):=by
  intro q j hj;rw [hfl,List.getElem?_map,Array.getElem?_toList,Array.getElem?_eq_getElem hj,getElem!_pos q j hj];rfl
 have hH:Holds enc s.w b 0 d:=by
  intro j hj;have hf:=hflat d j hj;rw [hdl] at hf;have hcj:cur[j]?=some (enc d[j]!):=by
   rw [← htk,List.getElem?_take] at hf;split at hf
   ·simpa using hf
   ·cases hf
  refine ⟨?_, ?_⟩
  ·rw [Nat.zero_add,cell_of_row s.w b j cur te (0,0) hgb];exact hcj
  ·unfold World.frozen?;simp [hgb]
 have hO':SWO (Go.Proofs.ltOf fun p q:α'=>cf p.1.2 q.1.2):=⟨fun x=>hO.irrefl x.1.2,fun x y z=>hO.trans x.1.2 y.1.2 z.1.2,fun x y z=>hO.ntrans x.1.2 y.1.2 z.1.2⟩;have hcmp:Go.Proofs.CmpLays1 P g #[] enc (fun p q:α'=>cf p.1.2 q.1.2) b 0 d.size s.w:=by
  intro m os dk hdk x y;have hsz:s.w.heap.size≤(sortWorld enc s.w b 0 m dk os).heap.size:=size1 enc s.w b m dk os;have hoth:∀c,c<s.w.heap.size→c≠b→(sortWorld enc s.w b 0 m dk os).heap[c]?=s.w.heap[c]?:=fun c hc hne=>zq1 enc m os hc hne
  let sd:VD.St:=⟨sortWorld enc s.w b 0 m dk os,fun c=>c=b,fun c hc=>by subst hc;omega⟩
  have hgd:VD.Gl sd:=by
   have key:∀c o,¬ s.X c→s.w.heap[c]?=some o→c≠b∧sd.w.heap[c]?=some o:=fun c o k1 k2=>by
    have hpb:c≠b:=fun e=>k1 (e ▸ hXb);exact ⟨hpb,(hoth c (Array.getElem?_eq_some_iff.1 k2).1 hpb).trans k2⟩
   refine ⟨fun p hp=>?_,fun p hp=>?_⟩
   ·obtain ⟨k1,t,fr,k2⟩:=hgl.1 p hp;obtain ⟨k3,k4⟩:=key _ _ k1 k2;exact ⟨k3,t,fr,k4⟩
   ·obtain ⟨k1,m',t,fr,es,clock,ys,k2,k3,k4,k5,k6⟩:=hgl.2 p hp;obtain ⟨j1,j2⟩:=key _ _ k1 k2;obtain ⟨j3,j4⟩:=key _ _ k3 k4;exact ⟨j1,m',t,fr,es,clock,ys,j2,j3,j4,k5,k6⟩
  have hfoot:∀c,zfc s c→VD.zfc sd c:=fun c hc=>⟨Nat.lt_of_lt_of_le hc.1 hsz,fun e=>hc.2 (e ▸ hXb)⟩;have conv:∀z:α',E'.R sd.w (VD.zfc sd) z.1.1 z.1.2:=fun z=>E'.mono hfoot (E'.move (fun c hc=>hoth c hc.1 (fun e=>hc.2 (e ▸ hXb))) (hR z.2.1))
  have:=cmp_grow (hc _ x.2.2 _ y.2.2) sd hgd (conv x) (conv y);have hval:∀z:α',E'.val z.1.1=enc z:=fun z=>by unfold VD.En.val;rw [hA'];rfl
  rw [hval,hval] at this;exact this
 have hmain:=Go.Proofs.Any.slices_SortFunc L enc hone (fun p q:α'=>cf p.1.2 q.1.2) hO' g #[] b 0 cap d s.w eg hcmp hH hblt (by rw [hdn];omega);rw [hdn] at hmain;refine hmain.mono fun e w' ⟨he,d',m,os,hP,hS,hw⟩=>?_;subst he;subst hw;have hd'n:d'.size=xs.length:=hP.1.trans hdn;have hsz:s.w.heap.size≤(sortWorld enc s.w b 0 m d' os).heap.size:=size1 enc s.w b m d' os
 let s':St:=⟨sortWorld enc s.w b 0 m d' os,s.X,fun c hc=>Nat.lt_of_lt_of_le (s.lt c hc) hsz⟩
 have hmv:Mv (fun c=>(Value.slice (some ⟨b,0,none⟩) xs.length cap).ownBlock=some c) s s':=
  ⟨trivial,rfl,rfl,rfl,hsz,fun c hc hne=>zq1 enc m os hc (fun e=>hne (by rw [e];rfl)),fun c hc=>hX c hc,fun c hc=>.inl hc⟩
 refine ⟨_,s',rfl,rfl,⟨hmv,fun c hc=>hc⟩,d'.toList.map (fun p=>p.1.2), ?_, ?_,rfl,rfl,fun c hc=>h2 c hc,by simp [hd'n];exact h3,d'.toList.map (fun p=>p.1.1),⟨by simp,fun i cs x hi hx=>?_⟩, ?_⟩
 ·have hp:=(hP.2.2).map (fun p:α'=>p.1.2);have e1:(d'.extract 0 xs.length).toList=d'.toList:=by rw [← hd'n];simp
  have e2:(d.extract 0 xs.length).toList=d.toList:=by rw [← hdn];simp
  rw [e1,e2,hdx] at hp;exact hp
 ·rw [List.pairwise_iff_getElem];intro i j hi hj hij;simp only [List.length_map,Array.length_toList] at hi hj;have:=hS i j (Nat.zero_le _) hij (by omega);unfold Go.Proofs.ltOf at this;rw [getElem!_pos d' i hi,getElem!_pos d' j hj] at this;simpa using this
 ·simp only [List.getElem?_map,Array.getElem?_toList] at hi hx;cases hq:d'[i]? with
  | none=>rw [hq] at hi;cases hi
  | some q=>
   rw [hq] at hi hx;simp only [Option.map_some,Option.some.injEq] at hi hx;subst hi;subst hx;exact E.go hmv q.2.1
 ·have hfll:(d'.toList.map (fun p=>p.1.1)).flatten.length=d'.size:=by rw [hfl];simp
  have hle:d'.size≤cur.size:=by rw [hcs,hd'n,hsz1];omega
  refine ⟨by rw [hfll,hsz1];simp,.inr ⟨b,cap,_,by simp [hd'n],Nat.zero_le _,put_block1 enc m os hgb,by simp [hd'n];exact hnc,hcm,by simp [putCells];exact hcs, ?_⟩⟩;apply List.ext_getElem?;intro j;rw [List.getElem?_take];simp only [List.length_map,Array.length_toList];split
  ·rename_i hj
   have hj':j<d'.size:=by rw [hsz1] at hj;omega
   rw [hflat d' j hj',Array.getElem?_toList];unfold putCells;rw [Array.getElem?_mapIdx,Array.getElem?_eq_getElem (by omega)];simp only [Option.map_some];rw [if_pos ⟨Nat.zero_le _,by omega⟩,Nat.sub_zero]
  ·rename_i hj
   rw [List.getElem?_eq_none (by rw [hfll];rw [hsz1] at hj;omega)]
theorem swo_state:SWO (Go.Proofs.ltOf fun x y:List SItem=>zfd x y):=swo_cmp (fun x=>zjx _) (fun x y=>zgh _ _) fun x y z h1 h2=>cmpS_le h1 h2
theorem zpx:∀{y r:List (List SItem)},y.Perm r→y.Pairwise (fun a b=>¬ zfd b a<0)→r.Pairwise (fun a b=>zfd a b<0)→y=r:=fun {y r} hp hs hr=>by
 have hn:r.Nodup:=hr.imp fun {a b} h e=>by subst e;exact zho h
 have hny:y.Nodup:=hp.nodup_iff.2 hn;have hy:y.Pairwise (fun a b=>zfd a b<0):=(hs.and hny).imp fun {a b} h=>by
  have h3:=zgh b a;have h4:zfd a b≠0:=fun e=>h.2 (zen.1 e);omega
 have:=zlk (B:=y.map fun t=>((t,0):SBranch)) (C:=r.map fun t=>((t,0):SBranch)) (List.pairwise_map.2 hy) (List.pairwise_map.2 hr) fun x=>by
  simp only [List.mem_map];constructor
  ·rintro ⟨t,ht,rfl⟩;exact ⟨t,hp.mem_iff.1 ht,rfl⟩
  ·rintro ⟨t,ht,rfl⟩;exact ⟨t,hp.mem_iff.2 ht,rfl⟩
 have h2:=congrArg (List.map (·.1)) this;simpa [List.map_map,Function.comp_def] using h2
theorem zkv (v0:Value) {x r:List (List SItem)} (h:zfx x r):Fm Tryz.prog 57 (fun b=>v0.ownBlock=some b) [Pd.prow (En.slice En.SItem) 47 v0 x,Pd.is (.func (.func 58) #[] #[])] (fun _ s' _=>(Pd.prow (En.slice En.SItem) 47 v0 r).p s' v0):=by
 have h0:=fm_sort1 slsortT slsortS (E:=En.slice En.SItem) (E':=VD.En.slice VD.En.SItem) (te:=47) (g:=58) (cf:=fun a b:List SItem=>zfd a b) zrk rfl rfl (fun h=>h) (zfh Tryz.func57 rfl (by rfl)) (zfh Tryz.func58 rfl (by rfl)) swo_state h.2.1 (fun a ha b hb=>VD.zjt (zha (h.1 a ha))) v0;refine ⟨h0.call,fun s vs hg hM hv=>(h0.run s vs hg hM hv).mono fun e w' ⟨v,s',he,hw,hfr,ys,hp,hs,hrow⟩=>⟨v,s',he,hw,hfr, ?_⟩⟩;rw [← zpx (hp.trans h.2.2.1.symm) hs h.2.2.2];exact hrow
end Go.Proofs.YtahgmdbioafmbaaGreatDoor.V
namespace Go.Proofs.YtahgmdbioafmbaaGreatDoor.V
open Go
set_option linter.unusedVariables false
def zh8 (d_:SDesc) (r_:(List (List SItem))):Prop:=∃r1:(List SItem),zko d_ r1∧r_=[r1]
def zcs.j1 (r_:(List (List SItem))) (found3:(List (Str × (List SItem)))):Prop:=sets_On_t found3 r_
def zcs.j2 (L1_:(List (Str × (List SItem)))→Int→Prop) (v10:Int) (found20:(List (Str × (List SItem)))):Prop:=(InR .i64 (v10+1))∧L1_ found20 (v10+1)
def zcs.l2 (r18:(List SBranch)) (X2:(List (Str × (List SItem)))→Prop):Nat→(List (Str × (List SItem)))→Int→Prop
 | 0,_,_=>False
 | k_0+1,found24,v26=>((decide (v26<(r18.length:Int)))=true→∃e32:SBranch,at? r18 v26=some e32∧∃r36:Str,zl2 e32.1 r36∧(InR .i64 (v26+1))∧zcs.l2 r18 X2 k_0 (zgb found24 r36 e32.1) (v26+1))∧((decide (v26<(r18.length:Int)))=false→X2 found24)
def zcs.l1 (d_:SDesc) (l_:(List (List SItem))) (cv_:Int) (X1:(List (Str × (List SItem)))→Prop):Nat→(List (Str × (List SItem)))→Int→Prop
 | 0,_,_=>False
 | k_0+1,found8,v10=>((decide (v10<(l_.length:Int)))=true→∃e16:(List SItem),at? l_ v10=some e16∧∃r18:(List SBranch),zby d_ e16 cv_ r18∧∃k27,zcs.l2 r18 (zcs.j2 (zcs.l1 d_ l_ cv_ X1 k_0) v10) k27 found8 0)∧((decide (v10<(l_.length:Int)))=false→X1 found8)
def zcs (d_:SDesc) (l_:(List (List SItem))) (cv_:Int) (r_:(List (List SItem))):Prop:=∃k11,zcs.l1 d_ l_ cv_ (zcs.j1 r_) k11 ([]:(List (Str × (List SItem)))) 0
def zc4.j1 (r_:Bool):Prop:=r_=true
def zc4.l1 (a_:(List (List SItem))) (b_:(List (List SItem))) (r_:Bool) (X1:Prop):Nat→Int→Prop
 | 0,_=>False
 | k_0+1,i4=>((decide (i4<(a_.length:Int)))=true→∃e10:(List SItem),at? a_ i4=some e10∧∃e12:(List SItem),at? b_ i4=some e12∧∃r14:Bool,zke e10 e12 r14∧(((!r14))=true→r_=false)∧(((!r14))=false→(InR .i64 (i4+1))∧zc4.l1 a_ b_ r_ X1 k_0 (i4+1)))∧((decide (i4<(a_.length:Int)))=false→X1)
def zc4 (a_:(List (List SItem))) (b_:(List (List SItem))) (r_:Bool):Prop:=((((a_.length:Int) != (b_.length:Int)))=true→r_=false)∧((((a_.length:Int) != (b_.length:Int)))=false→∃k5,zc4.l1 a_ b_ r_ (zc4.j1 r_) k5 0)
def zio (s_:(List SItem)) (cap0_:SDesc) (r_:Bool):Prop:=∃r1:Int,zda cap0_ s_ r1∧r_=decide (0<r1)
def zji (d_:SDesc) (l_:(List (List SItem))) (r_:Bool):Prop:=∃r1:Bool,zbt l_ (fun q_=>zio q_.1 d_ q_.2) r1∧r_=r1
def zc3.j1 (r_:(List (List SItem))) (l5:(List (List SItem))):Prop:=r_=l5
def zc3.l1 (d_:SDesc) (w_:(List Int)) (X1:(List (List SItem))→Prop):Nat→(List (List SItem))→Int→Prop
 | 0,_,_=>False
 | k_0+1,l8,v10=>((decide (v10<(w_.length:Int)))=true→∃e16:Int,at? w_ v10=some e16∧∃r18:(List (List SItem)),zcs d_ l8 e16 r18∧(InR .i64 (v10+1))∧zc3.l1 d_ w_ X1 k_0 r18 (v10+1))∧((decide (v10<(w_.length:Int)))=false→X1 l8)
def zc3 (d_:SDesc) (w_:(List Int)) (r_:(List (List SItem))):Prop:=∃r1:(List (List SItem)),zh8 d_ r1∧∃k11,zc3.l1 d_ w_ (zc3.j1 r_) k11 r1 0
def zb9.j1 (r_:(List Cl)) (out2:(List Cl)):Prop:=r_=out2
def zb9.l1 (d_:SDesc) (l_:(List (List SItem))) (X1:(List Cl)→Prop):Nat→(List Cl)→Int→Prop
 | 0,_,_=>False
 | k_0+1,out5,v7=>((decide (v7<(l_.length:Int)))=true→∃e13:(List SItem),at? l_ v7=some e13∧∃r15:(List Cl),zbn d_ e13 r15∧((out5.length+r15.length)*32≤140737488355328)∧(InR .i64 (v7+1))∧zb9.l1 d_ l_ X1 k_0 (out5++r15) (v7+1))∧((decide (v7<(l_.length:Int)))=false→X1 out5)
def zb9 (d_:SDesc) (l_:(List (List SItem))) (r_:(List Cl)):Prop:=∃k8,zb9.l1 d_ l_ (zb9.j1 r_) k8 ([]:(List Cl)) 0
def zdh.j1 (r_:(List Cl)) (out3:(List Cl)):Prop:=r_=out3
def zdh.l1 (l_:(List Cl)) (X1:(List Cl)→Prop):Nat→(List (Cl × Bool))→(List Cl)→Int→Prop
 | 0,_,_,_=>False
 | k_0+1,met6,out8,v10=>((decide (v10<(l_.length:Int)))=true→∃e17:Cl,at? l_ v10=some e17∧(((!(zex met6 e17 false)))=true→(out8.length+[e17].length≤2147483648)∧(InR .i64 (v10+1))∧zdh.l1 l_ X1 k_0 (zgb met6 e17 true) (out8++[e17]) (v10+1))∧(((!(zex met6 e17 false)))=false→(InR .i64 (v10+1))∧zdh.l1 l_ X1 k_0 (zgb met6 e17 true) out8 (v10+1)))∧((decide (v10<(l_.length:Int)))=false→X1 out8)
def zdh (l_:(List Cl)) (r_:(List Cl)):Prop:=∃k11,zdh.l1 l_ (zdh.j1 r_) k11 ([]:(List (Cl × Bool))) ([]:(List Cl)) 0
def zj9 (d_:SDesc) (l_:(List (List SItem))) (r_:(List Int)):Prop:=∃r1:(List Cl),zb9 d_ l_ r1∧∃r3:(List Cl),zdh r1 r3∧∃r5:(List Int),zcr r3 r5∧r_=r5
def zit (d_:SDesc) (r_:(List (List SItem))):Prop:=(InR .i64 ((d_.length:Int)-1))∧r_=[[(1,(d_.length:Int)-1,0,0)]]
def zbl.j1 (r_:(List (List SItem))) (out5:(List (List SItem))):Prop:=r_=out5
def zbl.l1 (m2:(List SBranch)) (X1:(List (List SItem))→Prop):Nat→(List (List SItem))→Int→Prop
 | 0,_,_=>False
 | k_0+1,out8,i10=>((decide (i10<(m2.length:Int)))=true→∃e16:SBranch,at? m2 i10=some e16∧(out8.length+[e16.1].length≤2147483648)∧(InR .i64 (i10+1))∧zbl.l1 m2 X1 k_0 (out8++[e16.1]) (i10+1))∧((decide (i10<(m2.length:Int)))=false→X1 out8)
def zbl.j2 (r_:(List (List SItem))) (m2:(List SBranch)):Prop:=∃k11,zbl.l1 m2 (zbl.j1 r_) k11 ([]:(List (List SItem))) 0
def zbl.j3 (L2_:(List SBranch)→Int→Prop) (i22:Int) (m32:(List SBranch)):Prop:=(InR .i64 (i22+1))∧L2_ m32 (i22+1)
def zbl.l3 (r30:(List SBranch)) (X3:(List SBranch)→Prop):Nat→(List SBranch)→Int→Prop
 | 0,_,_=>False
 | k_0+1,m35,k36=>((decide (k36<(r30.length:Int)))=true→∃e42:SBranch,at? r30 k36=some e42∧∃r44:(List SBranch),zb0 m35 e42.1 1 r44∧(InR .i64 (k36+1))∧zbl.l3 r30 X3 k_0 r44 (k36+1))∧((decide (k36<(r30.length:Int)))=false→X3 m35)
def zbl.l2 (d_:SDesc) (l_:(List (List SItem))) (cv_:Int) (X2:(List SBranch)→Prop):Nat→(List SBranch)→Int→Prop
 | 0,_,_=>False
 | k_0+1,m21,i22=>((decide (i22<(l_.length:Int)))=true→∃e28:(List SItem),at? l_ i22=some e28∧∃r30:(List SBranch),zde d_ e28 cv_ r30∧∃k37,zbl.l3 r30 (zbl.j3 (zbl.l2 d_ l_ cv_ X2 k_0) i22) k37 m21 0)∧((decide (i22<(l_.length:Int)))=false→X2 m21)
def zbl (d_:SDesc) (l_:(List (List SItem))) (cv_:Int) (r_:(List (List SItem))):Prop:=∃k23,zbl.l2 d_ l_ cv_ (zbl.j2 r_) k23 ([]:(List SBranch)) 0
def zcx.j1 (r_:Bool):Prop:=r_=false
def zcx.l1 (d_:SDesc) (l_:(List (List SItem))) (r_:Bool) (X1:Prop):Nat→Int→Prop
 | 0,_=>False
 | k_0+1,i3=>((decide (i3<(l_.length:Int)))=true→∃e9:(List SItem),at? l_ i3=some e9∧∃r11:Int,zct d_ e9 r11∧((decide (0<r11))=true→r_=true)∧((decide (0<r11))=false→(InR .i64 (i3+1))∧zcx.l1 d_ l_ r_ X1 k_0 (i3+1)))∧((decide (i3<(l_.length:Int)))=false→X1)
def zcx (d_:SDesc) (l_:(List (List SItem))) (r_:Bool):Prop:=∃k4,zcx.l1 d_ l_ r_ (zcx.j1 r_) k4 0
def zb2.j1 (r_:(List Cl)) (list2:(List Cl)):Prop:=r_=list2
def zb2.l1 (d_:SDesc) (l_:(List (List SItem))) (X1:(List Cl)→Prop):Nat→(List Cl)→Int→Prop
 | 0,_,_=>False
 | k_0+1,list5,i7=>((decide (i7<(l_.length:Int)))=true→∃e13:(List SItem),at? l_ i7=some e13∧∃r15:(List Cl),zu d_ e13 r15∧((list5.length+r15.length)*32≤140737488355328)∧(InR .i64 (i7+1))∧zb2.l1 d_ l_ X1 k_0 (list5++r15) (i7+1))∧((decide (i7<(l_.length:Int)))=false→X1 list5)
def zb2 (d_:SDesc) (l_:(List (List SItem))) (r_:(List Cl)):Prop:=∃k8,zb2.l1 d_ l_ (zb2.j1 r_) k8 ([]:(List Cl)) 0
def zbg.j1 (r_:(List Cl)) (out2:(List Cl)):Prop:=r_=out2
def zbg.j2 (L1_:(List Cl)→Int→Prop) (l_:(List Cl)) (out5:(List Cl)) (i7:Int) (met14:Bool):Prop:=(((!met14))=true→∃e16:Cl,at? l_ i7=some e16∧(out5.length+[e16].length≤2147483648)∧(InR .i64 (i7+1))∧L1_ (out5++[e16]) (i7+1))∧(((!met14))=false→(InR .i64 (i7+1))∧L1_ out5 (i7+1))
def zbg.l2 (l_:(List Cl)) (out5:(List Cl)) (i7:Int) (X2:Bool→Prop):Nat→Bool→Int→Prop
 | 0,_,_=>False
 | k_0+1,met22,k23=>((((decide (k23<(out5.length:Int)))&&(!met22)))=true→∃e29:Cl,at? out5 k23=some e29∧∃e31:Cl,at? l_ i7=some e31∧(InR .i64 (k23+1))∧zbg.l2 l_ out5 i7 X2 k_0 (e29==e31) (k23+1))∧((((decide (k23<(out5.length:Int)))&&(!met22)))=false→X2 met22)
def zbg.l1 (l_:(List Cl)) (X1:(List Cl)→Prop):Nat→(List Cl)→Int→Prop
 | 0,_,_=>False
 | k_0+1,out5,i7=>((decide (i7<(l_.length:Int)))=true→∃k24,zbg.l2 l_ out5 i7 (zbg.j2 (zbg.l1 l_ X1 k_0) l_ out5 i7) k24 false 0)∧((decide (i7<(l_.length:Int)))=false→X1 out5)
def zbg (l_:(List Cl)) (r_:(List Cl)):Prop:=∃k8,zbg.l1 l_ (zbg.j1 r_) k8 ([]:(List Cl)) 0
def ziu (d_:SDesc) (l_:(List (List SItem))) (r_:(List Int)):Prop:=∃r1:(List Cl),zb2 d_ l_ r1∧∃r3:(List Cl),zbg r1 r3∧∃r5:(List Int),zbe r3 r5∧r_=r5
set_option maxRecDepth 100000
set_option maxHeartbeats 2000000
set_option synthInstance.maxSize 100000
set_option synthInstance.maxHeartbeats 200000
theorem zlm {d_:SDesc} {r_:(List (List SItem))} (h:zh8 d_ r_):Fn Tryz.prog 17 [(Pd.rep En.SDesc d_)] (Ro (En.slice En.SItem) 47 r_):=by
 unfold zh8 at h;refine zbi Tryz.func17 J Tryz.ntmps17 (by rfl) (by simp) fun s0 a L=>?_;refine rs (sA 1 L fun a s L=>?_);refine sno (En.slice En.SItem) 47 L fun a s L=>?_;refine es ?_;obtain ⟨r1,h2,h⟩:=h;refine rs (sl 2 (p1 ((zs7 h2).frz)) L fun a s L=>?_);refine zd5 (xs:=[.tmp 4]) 5 L (.cons op .nil) Ud.h Tq.h J J (by decide) J J J J fun a s g3 hg_ L=>?_;refine sA 1 L fun a s L=>?_;refine es ?_;subst h;exact wp_ret (zet J L J)
theorem zqy {d_:SDesc} {l_:(List (List SItem))} {cv_:Int} {r_:(List (List SItem))} (h:zcs d_ l_ cv_ r_):Fn Tryz.prog 19 [(Pd.rep En.SDesc d_),(Pd.rep (En.slice (En.slice En.SItem)) l_),(Pd.rep (En.int .u8) cv_)] (Ro (En.slice En.SItem) 47 r_):=by
 unfold zcs at h;refine zbi Tryz.func19 J Tryz.ntmps19 (by rfl) (by simp) fun s0 a L=>?_;refine rs (sA 1 L fun a s L=>?_);refine sno (En.slice En.SItem) 47 L fun a s L=>?_;refine es (rs ?_);refine zj8 15 En.str kvStr (En.slice En.SItem) L J J J J fun a s g1 hg_ L=>?_;refine sA 1 L fun a s L=>?_;refine es (wp_seq_k fun K2 H2=>?_);refine rA 3 L fun a s L=>?_;refine wp_block ?_;have J5:∀(found3:(List (Str × (List SItem)))) (og4:Option Nat) (a:Act) (s:St),Has N0 52 s0 a s [(7,(Pd.map En.str kvStr (En.slice En.SItem) s0.w.heap.size og4 found3))]→((zcs.j1 r_) found3)→K2 a s.w:=by
  intro found3 og4 a s L h;unfold zcs.j1 at h;show K2 a s.w;refine H2 _ _ (rs ?_);refine sno (En.slice En.SItem) 47 L fun a s L=>?_;refine es (wp_seq_k fun K6 H6=>?_);refine wp_seq_k fun K7 H7=>?_;obtain ⟨q1,q2,q3,q4⟩:=h;refine rg ?_;obtain ⟨s2,hw,L⟩:=L.freezem (L':=[(12,Pd.row (En.slice En.SItem) s0.w.heap.size 47 none [])]) 7 rfl (.cons (t:=12) rfl no_own .nil);rw [← hw];clear hw;generalize s2=s at *;refine sw 39 (zo (O 7 J) J J) L fun a s L=>?_;refine zrm 40 L (O 39 J) U78 J J J J fun a s r hr L=>?_;refine en' ?_;show K7 a s.w;refine H7 _ _ ?_;refine wp_block ?_;have JJ:∀(a:Act) (s:St) (og:Option Nat) (out:List (List SItem)),Has N0 52 s0 a s [(12,Pd.row (En.slice En.SItem) s0.w.heap.size 47 og out)]→out.Perm (found3.map (·.2))→K6 a s.w:=by
   intro a s og out L hp;have hsrt:zfx out r_:=⟨fun b hb=>q1 b (hp.mem_iff.1 hb),by rw [hp.length_eq];exact q2,q3.trans hp.symm,q4⟩;refine H6 _ _ (wp_seq_k fun K7 H7=>?_);refine rg (sw 49 (zo (O 12 J) J J) L fun a s L=>?_);refine zlj (L':=[(12,Pd.row (En.slice En.SItem) s0.w.heap.size 47 og r_)]) 50 (fun v0=>zkv v0 hsrt) L (O 49 J) (zs:=[.func 58]) (.cons o_isf .nil) J J J J (.turn (t:=12) J .nil) fun a s L=>?_;refine en' ?_;show K7 a s.w;refine H7 _ _ ?_;refine wp_seq_k fun K8 H8=>rg (sw 51 (zo (O 12 J) J J) L fun a s L=>?_);refine sw 6 (zy (O 51 J) J J) L fun a s L=>?_;refine en' ?_;show K8 a s.w;refine H8 _ _ ?_;exact wp_ret (zet J L J)
  have hmlen:found3.length≤2147483648:=by simpa using q2
  refine lpg (fun k a s=>∃(rem:List (Str × List SItem)) (cur:Option (Str × List SItem)) (og:Option Nat) (out:List (List SItem)),rem.length+1=k∧Has N0 52 s0 a s [(12,Pd.row (En.slice En.SItem) s0.w.heap.size 47 og out),(40,Pd.iter En.str kvStr (En.slice En.SItem) s0.w.heap.size r rem cur)]∧(∀b,og=some b→¬ some r=some b)∧(out++rem.map (·.2)).Perm (found3.map (·.2)))
   (found3.length+1) ⟨found3,none,none,[],rfl,L.keep (.cons (t:=12) rfl (fun _ _ h_=>h_) (.cons (t:=40) rfl (fun _ _ h_=>h_) .nil)),(fun b hb=>by cases hb),by simp⟩ ?_
  rintro k a s ⟨rem,cur,og,out,hrk,L,hdis,hperm⟩ KL hKL;refine wp_seq_k fun K5 H5=>rg (st_next (L':=[(12,Pd.row (En.slice En.SItem) s0.w.heap.size 47 og out)]) 41 L (x:=40) J J J J J (by decide) (.cons (t:=12) J hdis .nil) (fun a hrem L=>?_) (fun a s p rem' hp L=>?_))
  ·subst hrem;refine sw 42 (t_nx (O 41 J) J J) L fun a s L=>?_;refine en' ?_;show K5 a s.w;refine H5 _ _ ?_;refine wp_seq_k fun K6 H6=>cnd L J (fun hb3_=>by cases hb3_) (fun _=>?_);refine wp_exit ?_;exact JJ a s og out (L.keep (.cons (t:=12) J (fun _ _ h_=>h_) .nil)) (by simpa using hperm)
  refine sw 42 (t_nx (O 41 J) J J) L fun a s L=>?_;refine en' ?_;show K5 a s.w;refine H5 _ _ ?_;refine wp_seq_k fun K6 H6=>cnd L J (fun _=>?_) (fun hb3_=>by cases hb3_);refine wp_skip ?_;show K6 a s.w;refine H6 _ _ ?_;refine wp_block (wp_seq_k fun K9 H9=>?_);refine rg (sw 43 (t_entry (O 40 J) (zey U9) J J) L fun a s L=>?_);refine sw 44 (zog (O 43 J) J J) L fun a s L=>?_;refine sw 14 (zy (O 44 J) J J) L fun a s L=>?_;refine en' ?_;show K9 a s.w;refine H9 _ _ ?_;refine rg ?_;have hpl:=hp.length_eq;simp only [List.length_cons] at hpl;have hol:out.length+(rem.length:Nat)=found3.length:=by
   have:=hperm.length_eq;simpa using this
  refine sw 45 (zo (O 12 J) J J) L fun a s L=>?_;refine sw 46 (zo (O 14 J) J J) L fun a s L=>?_;refine sw 47 (t_lit (xs:=[.tmp 46]) (.cons (O 46 J) .nil) U25 zrk J J (by decide) J J) L fun a s L=>?_;have lr:=L.ilt 40 rfl r rfl;refine zb4 (L':=[(40,Pd.iter En.str kvStr (En.slice En.SItem) s0.w.heap.size r rem' (some p))]) 48 L (O 45 J) (O 47 J) U25 zrk (by simp;omega) J J J J (.cons (t:=40) J (fun b hb e=>hdis b e hb) .nil) fun a s og' hg' L=>?_;refine sw 12 (zy (O 48 J) J J) L fun a s L=>?_;refine en' ?_;refine hKL (k-1) a s (by omega) ⟨rem',some p,og',out++[p.2],by omega,L.keep (.cons (t:=12) J (fun _ _ h_=>h_) (.cons (t:=40) J (fun _ _ h_=>h_) .nil)),fun b hb e=>?_, ?_⟩
  ·rcases hg' b hb with h3 | h3
   ·exact hdis b h3 e
   ·cases e;omega
  ·refine List.Perm.trans ?_ hperm;have h5:=hp.map (·.2);rw [List.map_cons] at h5;rw [List.append_assoc,List.singleton_append];exact (h5.symm.append_left out)
 obtain ⟨k11,h⟩:=h;refine lpn (fun k12 a s=>∃(found8:(List (Str × (List SItem)))) (v10:Int) (og9:Option Nat),Has N0 52 s0 a s [(2,(Pd.rep (En.int .u8) cv_)),(3,(Pd.ptr En.SDesc d_)),(7,(Pd.map En.str kvStr (En.slice En.SItem) s0.w.heap.size og9 found8)),(16,(Pd.rep (En.slice (En.slice En.SItem)) l_)),(17,(Pi (l_.length:Int))),(18,(Pi v10))]∧zcs.l1 d_ l_ cv_ (zcs.j1 r_) k12 found8 v10) k11 ⟨([]:(List (Str × (List SItem)))),0,(some g1),L.kk,h⟩ ?_;rintro k12 a s ⟨found8,v10,og9,L,h⟩ KL13 hKL13;unfold zcs.l1 at h;refine rA 1 L fun a s L=>?_;refine wp_seq_k fun K14 H14=>cn L h (fun h=>?_) fun h=>?_
 ·refine wp_skip (H14 _ _ ?_);refine wp_seq_k fun K15 H15=>wp_block ?_;obtain ⟨e16,h17,h⟩:=h;refine ra 3 (p1 h17) L fun a s L=>?_;obtain ⟨r18,h19,h⟩:=h;refine ra 6 (p1 ((next_On_ok h19).frz)) L fun a s L=>?_;refine wp_block ?_;have J22:∀(found20:(List (Str × (List SItem)))) (og21:Option Nat) (a:Act) (s:St),Has N0 52 s0 a s [(2,(Pd.rep (En.int .u8) cv_)),(3,(Pd.ptr En.SDesc d_)),(7,(Pd.map En.str kvStr (En.slice En.SItem) s0.w.heap.size og21 found20)),(16,(Pd.rep (En.slice (En.slice En.SItem)) l_)),(17,(Pi (l_.length:Int))),(18,(Pi v10))]→((zcs.j2 (zcs.l1 d_ l_ cv_ (zcs.j1 r_) k12) v10) found20)→K15 a s.w:=by
   intro found20 og21 a s L h;unfold zcs.j2 at h;show K15 a s.w;refine H15 _ _ ?_;obtain ⟨h23,h⟩:=h;refine rg (sA 2 L fun a s L=>?_);refine en' ?_;exact hKL13 a s ⟨found20,(v10+1),og21,L.kk,h⟩
  obtain ⟨k27,h⟩:=h;refine lpn (fun k28 a s=>∃(found24:(List (Str × (List SItem)))) (v26:Int) (og25:Option Nat),Has N0 52 s0 a s [(2,(Pd.rep (En.int .u8) cv_)),(3,(Pd.ptr En.SDesc d_)),(7,(Pd.map En.str kvStr (En.slice En.SItem) s0.w.heap.size og25 found24)),(16,(Pd.rep (En.slice (En.slice En.SItem)) l_)),(17,(Pi (l_.length:Int))),(18,(Pi v10)),(25,(Pd.rep (En.slice En.SBranch) r18)),(26,(Pi (r18.length:Int))),(27,(Pi v26))]∧zcs.l2 r18 (zcs.j2 (zcs.l1 d_ l_ cv_ (zcs.j1 r_) k12) v10) k28 found24 v26) k27 ⟨found8,0,og9,L.kk,h⟩ ?_;rintro k28 a s ⟨found24,v26,og25,L,h⟩ KL29 hKL29;unfold zcs.l2 at h;refine rA 1 L fun a s L=>?_;refine wp_seq_k fun K30 H30=>cn L h (fun h=>?_) fun h=>?_
  ·refine wp_skip (H30 _ _ ?_);refine wp_seq_k fun K31 H31=>wp_block ?_;obtain ⟨e32,h33,h⟩:=h;refine rs (sl 2 (p1 h33) L fun a s L=>?_);have lt_d35:=L.mlt 7 rfl;refine z8 En.SBranch (z:=([],0)) 11 L zmg J J J J fun a s g34 hg_ L=>?_;have d35:=Dis.newg hg_ lt_d35;refine sB 11 L fun s L=>?_;refine es ?_;obtain ⟨r36,h37,h⟩:=h;refine rdx 6 (p1 (zi0 h37)) L fun a s L=>?_;refine zhe L op op op Ud.h (zey Ud.h) (.inl J) J J kw fun s L=>?_;refine en' (H31 _ _ ?_);obtain ⟨h38,h⟩:=h;refine rg (sA 2 L fun a s L=>?_);refine en' ?_;exact hKL29 a s ⟨(zgb found24 r36 e32.1),(v26+1),og25,L.kk,h⟩
  ·refine wp_exit ?_;exact J22 found24 og25 a s (L.kk) h
 ·refine wp_exit ?_;exact J5 found8 og9 a s (L.kk) h
theorem zrx {a_:(List (List SItem))} {b_:(List (List SItem))} {r_:Bool} (h:zc4 a_ b_ r_):Fn Tryz.prog 16 [(Pd.rep (En.slice (En.slice En.SItem)) a_),(Pd.rep (En.slice (En.slice En.SItem)) b_)] (Rq (Pd.rep En.bool r_)):=by
 unfold zc4 at h;refine zbi Tryz.func16 J Tryz.ntmps16 (by rfl) (by simp) fun s0 a L=>?_;refine rA 1 L fun a s L=>?_;refine wp_seq_k fun K1 H1=>rA 5 L fun a s L=>?_;refine cn L h (fun h=>?_) fun h=>?_
 ·refine rA 1 L fun a s L=>?_;subst h;exact wp_ret (zdm J L J)
 ·refine wp_skip (H1 _ _ ?_);refine wp_seq_k fun K2 H2=>rA 1 L fun a s L=>?_;refine wp_block ?_;have J3:∀(a:Act) (s:St),Has N0 27 s0 a s []→((zc4.j1 r_))→K2 a s.w:=by
   intro a s L h;unfold zc4.j1 at h;show K2 a s.w;refine H2 _ _ (rA 1 L fun a s L=>?_);subst h;exact wp_ret (zdm J L J)
  obtain ⟨k5,h⟩:=h;refine lpn (fun k6 a s=>∃(i4:Int),Has N0 27 s0 a s [(0,(Pd.rep (En.slice (En.slice En.SItem)) a_)),(1,(Pd.rep (En.slice (En.slice En.SItem)) b_)),(5,(Pi i4))]∧zc4.l1 a_ b_ r_ (zc4.j1 r_) k6 i4) k5 ⟨0,L.kk,h⟩ ?_;rintro k6 a s ⟨i4,L,h⟩ KL7 hKL7;unfold zc4.l1 at h;refine wp_seq_k fun K8 H8=>rA 4 L fun a s L=>?_;refine cn L h (fun h=>?_) fun h=>?_
  ·refine wp_skip (H8 _ _ ?_);refine wp_seq_k fun K9 H9=>wp_block ?_;obtain ⟨e10,h11,e12,h13,r14,h15,h⟩:=h;refine wp_seq (rdx 10 (pp h11 (pp h13 (p1 (zsa h15)))) L fun a s L=>?_);refine es (cn L h (fun h=>?_) fun h=>?_)
   ·refine rA 1 L fun a s L=>?_;subst h;exact wp_ret (zdm J L J)
   ·refine wp_skip (H9 _ _ ?_);obtain ⟨h16,h⟩:=h;refine rg (sA 3 L fun a s L=>?_);refine en' ?_;exact hKL7 a s ⟨(i4+1),L.kk,h⟩
  ·refine wp_exit ?_;exact J3 a s (L.kk) h
theorem zp2 {s_:(List SItem)} {cap0_:SDesc} {r_:Bool} (h:zio s_ cap0_ r_):Fn Tryz.prog 62 [(Pd.rep (En.slice En.SItem) s_),(Pd.ptr En.SDesc cap0_)] (Rq (Pd.rep En.bool r_)):=by
 unfold zio at h;refine zbi Tryz.func62 J Tryz.ntmps62 (by rfl) (by simp) fun s0 a L=>?_;refine rA 1 L fun a s L=>?_;obtain ⟨r1,h2,h⟩:=h;refine ra 5 (p1 (next_Ends_ok h2)) L fun a s L=>?_;subst h;exact wp_ret (zdm J L J)
theorem zm8 {d_:SDesc} {l_:(List (List SItem))} {r_:Bool} (h:zji d_ l_ r_):Fn Tryz.prog 21 [(Pd.rep En.SDesc d_),(Pd.rep (En.slice (En.slice En.SItem)) l_)] (Rq (Pd.rep En.bool r_)):=by
 unfold zji at h;refine zbi Tryz.func21 J Tryz.ntmps21 (by rfl) (by simp) fun s0 a L=>?_;refine rA 2 L fun a s L=>?_;obtain ⟨r1,h2,h⟩:=h;refine rs (sA 1 L fun a s L=>?_);refine sv (t_q (Pd.rep EnF88 (fun q_=>zio q_.1 d_ q_.2)) (t_mkfun (cs:=[.tmp 2]) (.cons op .nil) (zfh Tryz.func62 J (by rfl)) (zn4 enc_ptr ztg) (fun q_ h_=>zp2 h_) J J)) L fun a s L=>?_;refine sl 2 (p1 (zem h2)) L fun a s L=>?_;refine es ?_;subst h;exact wp_ret (zdm J L J)
theorem zro {d_:SDesc} {w_:(List Int)} {r_:(List (List SItem))} (h:zc3 d_ w_ r_):Fn Tryz.prog 31 [(Pd.rep En.SDesc d_),(Pd.rep (En.slice (En.int .u8)) w_)] (Ro (En.slice En.SItem) 47 r_):=by
 unfold zc3 at h;refine zbi Tryz.func31 J Tryz.ntmps31 (by rfl) (by simp) fun s0 a L=>?_;refine rs (sA 1 L fun a s L=>?_);refine sno (En.slice En.SItem) 47 L fun a s L=>?_;refine es ?_;obtain ⟨r1,h2,h⟩:=h;refine rs (sA 1 L fun a s L=>?_);refine zco 9 L (zlm h2) opz J J J J fun a s og3 hg_ L=>?_;refine sA 1 L fun a s L=>?_;refine es (wp_seq_k fun K4 H4=>?_);refine rA 3 L fun a s L=>?_;refine wp_block ?_;have J7:∀(l5:(List (List SItem))) (og6:Option Nat) (a:Act) (s:St),Has N0 22 s0 a s [(5,(Pd.row (En.slice En.SItem) s0.w.heap.size 47 og6 l5))]→((zc3.j1 r_) l5)→K4 a s.w:=by
  intro l5 og6 a s L h;unfold zc3.j1 at h;show K4 a s.w;refine H4 _ _ (rA 2 L fun a s L=>?_);subst h;exact wp_ret (zet J L J)
 obtain ⟨k11,h⟩:=h;refine lpn (fun k12 a s=>∃(l8:(List (List SItem))) (v10:Int) (og9:Option Nat),Has N0 22 s0 a s [(2,(Pd.ptr En.SDesc d_)),(5,(Pd.row (En.slice En.SItem) s0.w.heap.size 47 og9 l8)),(10,(Pd.rep (En.slice (En.int .u8)) w_)),(11,(Pi (w_.length:Int))),(12,(Pi v10))]∧zc3.l1 d_ w_ (zc3.j1 r_) k12 l8 v10) k11 ⟨r1,0,og3,L.kk,h⟩ ?_;rintro k12 a s ⟨l8,v10,og9,L,h⟩ KL13 hKL13;unfold zc3.l1 at h;refine rA 1 L fun a s L=>?_;refine wp_seq_k fun K14 H14=>cn L h (fun h=>?_) fun h=>?_
 ·refine wp_skip (H14 _ _ ?_);refine wp_seq_k fun K15 H15=>wp_block ?_;obtain ⟨e16,h17,h⟩:=h;refine ra 3 (p1 h17) L fun a s L=>?_;refine fzc 5 L fun s L=>?_;obtain ⟨r18,h19,h⟩:=h;refine rg (sA 3 L fun a s L=>?_);refine zco 19 L (zqy h19) opz J J J J fun a s og20 hg_ L=>?_;refine sA 1 L fun a s L=>?_;refine en' (H15 _ _ ?_);obtain ⟨h21,h⟩:=h;refine rg (sA 2 L fun a s L=>?_);refine en' ?_;exact hKL13 a s ⟨r18,(v10+1),og20,L.kk,h⟩
 ·refine wp_exit ?_;exact J7 l8 og9 a s (L.kk) h
theorem zoq {d_:SDesc} {l_:(List (List SItem))} {r_:(List Cl)} (h:zb9 d_ l_ r_):Fn Tryz.prog 27 [(Pd.rep En.SDesc d_),(Pd.rep (En.slice (En.slice En.SItem)) l_)] (Ro En.cls 51 r_):=by
 unfold zb9 at h;refine zbi Tryz.func27 J Tryz.ntmps27 (by rfl) (by simp) fun s0 a L=>?_;refine rs (sA 1 L fun a s L=>?_);refine sno En.cls 51 L fun a s L=>?_;refine es (rs ?_);refine sno En.cls 51 L fun a s L=>?_;refine es (wp_seq_k fun K1 H1=>?_);refine rA 3 L fun a s L=>?_;refine wp_block ?_;have J4:∀(out2:(List Cl)) (og3:Option Nat) (a:Act) (s:St),Has N0 21 s0 a s [(5,(Pd.row En.cls s0.w.heap.size 51 og3 out2))]→((zb9.j1 r_) out2)→K1 a s.w:=by
  intro out2 og3 a s L h;unfold zb9.j1 at h;show K1 a s.w;refine H1 _ _ (rA 2 L fun a s L=>?_);subst h;exact wp_ret (zet J L J)
 obtain ⟨k8,h⟩:=h;refine lpn (fun k9 a s=>∃(out5:(List Cl)) (v7:Int) (og6:Option Nat),Has N0 21 s0 a s [(2,(Pd.ptr En.SDesc d_)),(5,(Pd.row En.cls s0.w.heap.size 51 og6 out5)),(8,(Pd.rep (En.slice (En.slice En.SItem)) l_)),(9,(Pi (l_.length:Int))),(10,(Pi v7))]∧zb9.l1 d_ l_ (zb9.j1 r_) k9 out5 v7) k8 ⟨([]:(List Cl)),0,none,L.kk,h⟩ ?_;rintro k9 a s ⟨out5,v7,og6,L,h⟩ KL10 hKL10;unfold zb9.l1 at h;refine rA 1 L fun a s L=>?_;refine wp_seq_k fun K11 H11=>cn L h (fun h=>?_) fun h=>?_
 ·refine wp_skip (H11 _ _ ?_);refine wp_seq_k fun K12 H12=>wp_block ?_;obtain ⟨e13,h14,h⟩:=h;refine ra 3 (p1 h14) L fun a s L=>?_;obtain ⟨r15,h16,h17,h⟩:=h;refine rg (sl 4 (p1 ((zo5 h16).frz)) L fun a s L=>?_);refine st_appB 18 32 L op op Ud.h Tq.h (by decide) ⟨_,J,by decide⟩ h17 J J J J ka fun a s og18 hg_ L=>?_;refine sA 1 L fun a s L=>?_;refine en' (H12 _ _ ?_);obtain ⟨h19,h⟩:=h;refine rg (sA 2 L fun a s L=>?_);refine en' ?_;exact hKL10 a s ⟨(out5++r15),(v7+1),og18,L.kk,h⟩
 ·refine wp_exit ?_;exact J4 out5 og6 a s (L.kk) h
theorem sets_Once_ok {l_:(List Cl)} {r_:(List Cl)} (h:zdh l_ r_):Fn Tryz.prog 29 [(Pd.rep (En.slice En.cls) l_)] (Ro En.cls 51 r_):=by
 unfold zdh at h;refine zbi Tryz.func29 J Tryz.ntmps29 (by rfl) (by simp) fun s0 a L=>?_;refine rs (sno En.cls 51 L fun a s L=>?_);refine es (rs ?_);refine zj8 7 En.cls kvCls En.bool L J J J J fun a s g1 hg_ L=>?_;refine sA 1 L fun a s L=>?_;refine es (rs ?_);refine sno En.cls 51 L fun a s L=>?_;refine es (wp_seq_k fun K2 H2=>?_);refine rA 3 L fun a s L=>?_;refine wp_block ?_;have J5:∀(out3:(List Cl)) (og4:Option Nat) (a:Act) (s:St),Has N0 26 s0 a s [(4,(Pd.row En.cls s0.w.heap.size 51 og4 out3))]→((zdh.j1 r_) out3)→K2 a s.w:=by
  intro out3 og4 a s L h;unfold zdh.j1 at h;show K2 a s.w;refine H2 _ _ (rA 2 L fun a s L=>?_);subst h;exact wp_ret (zet J L J)
 obtain ⟨k11,h⟩:=h;refine lpn (fun k12 a s=>∃(met6:(List (Cl × Bool))) (out8:(List Cl)) (v10:Int) (og7:Option Nat) (og9:Option Nat),Has N0 26 s0 a s [(3,(Pd.map En.cls kvCls En.bool s0.w.heap.size og7 met6)),(4,(Pd.row En.cls s0.w.heap.size 51 og9 out8)),(8,(Pd.rep (En.slice En.cls) l_)),(9,(Pi (l_.length:Int))),(10,(Pi v10))]∧Dis og7 og9∧zdh.l1 l_ (zdh.j1 r_) k12 met6 out8 v10) k11 ⟨([]:(List (Cl × Bool))),([]:(List Cl)),0,(some g1),none,L.kk,(Dis.symm Dis.none),h⟩ ?_;rintro k12 a s ⟨met6,out8,v10,og7,og9,L,d14,h⟩ KL13 hKL13;unfold zdh.l1 at h;refine rA 1 L fun a s L=>?_;refine wp_seq_k fun K15 H15=>cn L h (fun h=>?_) fun h=>?_
 ·refine wp_skip (H15 _ _ ?_);refine wp_seq_k fun K16 H16=>wp_block ?_;obtain ⟨e17,h18,h⟩:=h;refine rs (sl 2 (p1 h18) L fun a s L=>?_);have lt_d21:=L.rlt 4 rfl;have lt_d20:=L.mlt 3 rfl;refine z8 En.cls (z:=(0#256)) 6 L zlg J J J J fun a s g19 hg_ L=>?_;have d20:=Dis.newg hg_ lt_d20;have d21:=Dis.newg hg_ lt_d21;refine sB 6 L fun s L=>?_;refine es (wp_seq_k fun K22 H22=>?_);refine rs (sA 2 L fun a s L=>?_);refine sv (zqs op op Ud.h zs3 tyv4 J J) L fun a s L=>?_;refine sA 1 L fun a s L=>?_;refine es (cn L h (fun h=>?_) fun h=>?_)
  ·obtain ⟨h23,h⟩:=h;refine rg (sA 3 L fun a s L=>?_);have lt_og24_0:=L.mlt 3 rfl;have lt_og24_1:=L.blt 6 rfl;refine zb4 21 L op op Ud.h Tq.h h23 J J J J ka fun a s og24 hg_ L=>?_;have d25:=Dis.app hg_ (Dis.symm d14) lt_og24_0;have d26:=Dis.app hg_ (Dis.symm d21) lt_og24_1;refine sA 1 L fun a s L=>?_;refine en' (H22 _ _ ?_);refine rg (sA 2 L fun a s L=>?_);refine zhe L op op o_b Ud.h zs3 (.inl J) J J kw fun s L=>?_;refine en' (H16 _ _ ?_);obtain ⟨h27,h⟩:=h;refine rg (sA 2 L fun a s L=>?_);refine en' ?_;exact hKL13 a s ⟨(zgb met6 e17 true),(out8++[e17]),(v10+1),og7,og24,L.kk,(Dis.symm d25),h⟩
  ·refine wp_skip (H22 _ _ ?_);refine rg (sA 2 L fun a s L=>?_);refine zhe L op op o_b Ud.h zs3 (.inl J) J J kw fun s L=>?_;refine en' (H16 _ _ ?_);obtain ⟨h28,h⟩:=h;refine rg (sA 2 L fun a s L=>?_);refine en' ?_;exact hKL13 a s ⟨(zgb met6 e17 true),out8,(v10+1),og7,og9,L.kk,d14,h⟩
 ·refine wp_exit ?_;exact J5 out8 og9 a s (L.kk) h
theorem zrn {d_:SDesc} {l_:(List (List SItem))} {r_:(List Int)} (h:zj9 d_ l_ r_):Fn Tryz.prog 24 [(Pd.rep En.SDesc d_),(Pd.rep (En.slice (En.slice En.SItem)) l_)] (Ro (En.int .u8) 5 r_):=by
 unfold zj9 at h;refine zbi Tryz.func24 J Tryz.ntmps24 (by rfl) (by simp) fun s0 a L=>?_;refine rs (sA 1 L fun a s L=>?_);refine sno (En.int .u8) 5 L fun a s L=>?_;refine es ?_;obtain ⟨r1,h2,r3,h4,r5,h6,h⟩:=h;refine rs (sl 4 (pp ((zoq h2).frz) (p1 ((sets_Once_ok h4).frz))) L fun a s L=>?_);refine zco 9 L (zp0 h6) opz J J J J fun a s og7 hg_ L=>?_;refine sA 1 L fun a s L=>?_;refine es ?_;subst h;exact wp_ret (zet J L J)
theorem zp6 {d_:SDesc} {r_:(List (List SItem))} (h:zit d_ r_):Fn Tryz.prog 18 [(Pd.rep En.SDesc d_)] (Ro (En.slice En.SItem) 47 r_):=by
 unfold zit at h;refine zbi Tryz.func18 J Tryz.ntmps18 (by rfl) (by simp) fun s0 a L=>?_;refine rs (sA 1 L fun a s L=>?_);refine sno (En.slice En.SItem) 47 L fun a s L=>?_;refine es ?_;obtain ⟨h1,h⟩:=h;refine rs (sA 4 L fun a s L=>?_);refine sv (zbj (x:=(1,(d_.length:Int)-1,0,0)) (ps:=[(0,.const (.int .i64 1)),(1,.tmp 6)]) zeu J zim (.cons (i:=0) op J (zw (zk _ _ _)) (.cons (i:=1) op J (zi (zw (zk _ _ _)) J) .nil)) J J) L fun a s L=>?_;refine sA 1 L fun a s L=>?_;refine zd5 (xs:=[.tmp 8]) 9 L (.cons op .nil) Ud.h Tq.h J J (by decide) J J J J fun a s g2 hg_ L=>?_;refine sA 1 L fun a s L=>?_;refine es ?_;subst h;exact wp_ret (zet J L J)
theorem ref16_On_ok {d_:SDesc} {l_:(List (List SItem))} {cv_:Int} {r_:(List (List SItem))} (h:zbl d_ l_ cv_ r_):Fn Tryz.prog 20 [(Pd.rep En.SDesc d_),(Pd.rep (En.slice (En.slice En.SItem)) l_),(Pd.rep (En.int .u8) cv_)] (Ro (En.slice En.SItem) 47 r_):=by
 unfold zbl at h;refine zbi Tryz.func20 J Tryz.ntmps20 (by rfl) (by simp) fun s0 a L=>?_;refine rs (sA 1 L fun a s L=>?_);refine sno (En.slice En.SItem) 47 L fun a s L=>?_;refine es (rs ?_);refine snr En.SBranch L fun a s L=>?_;refine es (wp_seq_k fun K1 H1=>?_);refine rA 1 L fun a s L=>?_;refine wp_block ?_;have J3:∀(m2:(List SBranch)) (a:Act) (s:St),Has N0 54 s0 a s [(7,(Pd.rep (En.slice En.SBranch) m2))]→((zbl.j2 r_) m2)→K1 a s.w:=by
  intro m2 a s L h;unfold zbl.j2 at h;show K1 a s.w;refine H1 _ _ (rs ?_);refine sno (En.slice En.SItem) 47 L fun a s L=>?_;refine es (wp_seq_k fun K4 H4=>?_);refine rA 1 L fun a s L=>?_;refine wp_block ?_;have J7:∀(out5:(List (List SItem))) (og6:Option Nat) (a:Act) (s:St),Has N0 54 s0 a s [(11,(Pd.row (En.slice En.SItem) s0.w.heap.size 47 og6 out5))]→((zbl.j1 r_) out5)→K4 a s.w:=by
   intro out5 og6 a s L h;unfold zbl.j1 at h;show K4 a s.w;refine H4 _ _ (rA 2 L fun a s L=>?_);subst h;exact wp_ret (zet J L J)
  obtain ⟨k11,h⟩:=h;refine lpn (fun k12 a s=>∃(out8:(List (List SItem))) (i10:Int) (og9:Option Nat),Has N0 54 s0 a s [(7,(Pd.rep (En.slice En.SBranch) m2)),(11,(Pd.row (En.slice En.SItem) s0.w.heap.size 47 og9 out8)),(12,(Pi i10))]∧zbl.l1 m2 (zbl.j1 r_) k12 out8 i10) k11 ⟨([]:(List (List SItem))),0,none,L.kk,h⟩ ?_;rintro k12 a s ⟨out8,i10,og9,L,h⟩ KL13 hKL13;unfold zbl.l1 at h;refine wp_seq_k fun K14 H14=>rA 4 L fun a s L=>?_;refine cn L h (fun h=>?_) fun h=>?_
  ·refine wp_skip (H14 _ _ ?_);refine wp_seq_k fun K15 H15=>wp_block ?_;obtain ⟨e16,h17,h18,h⟩:=h;refine rg (sl 7 (p1 h17) L fun a s L=>?_);refine zb4 52 L op op Ud.h Tq.h h18 J J J J ka fun a s og19 hg_ L=>?_;refine sA 1 L fun a s L=>?_;refine en' (H15 _ _ ?_);obtain ⟨h20,h⟩:=h;refine rg (sA 3 L fun a s L=>?_);refine en' ?_;exact hKL13 a s ⟨(out8++[e16.1]),(i10+1),og19,L.kk,h⟩
  ·refine wp_exit ?_;exact J7 out8 og9 a s (L.kk) h
 obtain ⟨k23,h⟩:=h;refine lpn (fun k24 a s=>∃(m21:(List SBranch)) (i22:Int),Has N0 54 s0 a s [(1,(Pd.rep (En.slice (En.slice En.SItem)) l_)),(2,(Pd.rep (En.int .u8) cv_)),(3,(Pd.ptr En.SDesc d_)),(7,(Pd.rep (En.slice En.SBranch) m21)),(8,(Pi i22))]∧zbl.l2 d_ l_ cv_ (zbl.j2 r_) k24 m21 i22) k23 ⟨([]:(List SBranch)),0,L.kk,h⟩ ?_;rintro k24 a s ⟨m21,i22,L,h⟩ KL25 hKL25;unfold zbl.l2 at h;refine wp_seq_k fun K26 H26=>rA 4 L fun a s L=>?_;refine cn L h (fun h=>?_) fun h=>?_
 ·refine wp_skip (H26 _ _ ?_);refine wp_seq_k fun K27 H27=>wp_block ?_;obtain ⟨e28,h29,r30,h31,h⟩:=h;refine wp_seq (rdx 7 (pp h29 (p1 ((ref15_On_ok h31).frz))) L fun a s L=>?_);refine sA 1 L fun a s L=>?_;refine es (rA 1 L fun a s L=>?_);refine wp_block ?_;have J33:∀(m32:(List SBranch)) (a:Act) (s:St),Has N0 54 s0 a s [(1,(Pd.rep (En.slice (En.slice En.SItem)) l_)),(2,(Pd.rep (En.int .u8) cv_)),(3,(Pd.ptr En.SDesc d_)),(7,(Pd.rep (En.slice En.SBranch) m32)),(8,(Pi i22))]→((zbl.j3 (zbl.l2 d_ l_ cv_ (zbl.j2 r_) k24) i22) m32)→K27 a s.w:=by
   intro m32 a s L h;unfold zbl.j3 at h;show K27 a s.w;refine H27 _ _ ?_;obtain ⟨h34,h⟩:=h;refine rg (sA 3 L fun a s L=>?_);refine en' ?_;exact hKL25 a s ⟨m32,(i22+1),L.kk,h⟩
  obtain ⟨k37,h⟩:=h;refine lpn (fun k38 a s=>∃(m35:(List SBranch)) (k36:Int),Has N0 54 s0 a s [(1,(Pd.rep (En.slice (En.slice En.SItem)) l_)),(2,(Pd.rep (En.int .u8) cv_)),(3,(Pd.ptr En.SDesc d_)),(7,(Pd.rep (En.slice En.SBranch) m35)),(8,(Pi i22)),(9,(Pd.rep (En.slice En.SBranch) r30)),(10,(Pi k36))]∧zbl.l3 r30 (zbl.j3 (zbl.l2 d_ l_ cv_ (zbl.j2 r_) k24) i22) k38 m35 k36) k37 ⟨m21,0,L.kk,h⟩ ?_;rintro k38 a s ⟨m35,k36,L,h⟩ KL39 hKL39;unfold zbl.l3 at h;refine wp_seq_k fun K40 H40=>rA 4 L fun a s L=>?_;refine cn L h (fun h=>?_) fun h=>?_
  ·refine wp_skip (H40 _ _ ?_);refine wp_seq_k fun K41 H41=>wp_block ?_;obtain ⟨e42,h43,r44,h45,h⟩:=h;refine rg (sl 8 (pp h43 (p1 ((zjj h45).frz))) L fun a s L=>?_);refine en' (H41 _ _ ?_);obtain ⟨h46,h⟩:=h;refine rg (sA 3 L fun a s L=>?_);refine en' ?_;exact hKL39 a s ⟨r44,(k36+1),L.kk,h⟩
  ·refine wp_exit ?_;exact J33 m35 a s (L.kk) h
 ·refine wp_exit ?_;exact J3 m21 a s (L.kk) h
theorem zr1 {d_:SDesc} {l_:(List (List SItem))} {r_:Bool} (h:zcx d_ l_ r_):Fn Tryz.prog 22 [(Pd.rep En.SDesc d_),(Pd.rep (En.slice (En.slice En.SItem)) l_)] (Rq (Pd.rep En.bool r_)):=by
 unfold zcx at h;refine zbi Tryz.func22 J Tryz.ntmps22 (by rfl) (by simp) fun s0 a L=>?_;refine rA 2 L fun a s L=>?_;refine wp_seq_k fun K1 H1=>rA 1 L fun a s L=>?_;refine wp_block ?_;have J2:∀(a:Act) (s:St),Has N0 19 s0 a s []→((zcx.j1 r_))→K1 a s.w:=by
  intro a s L h;unfold zcx.j1 at h;show K1 a s.w;refine H1 _ _ (rA 1 L fun a s L=>?_);subst h;exact wp_ret (zdm J L J)
 obtain ⟨k4,h⟩:=h;refine lpn (fun k5 a s=>∃(i3:Int),Has N0 19 s0 a s [(1,(Pd.rep (En.slice (En.slice En.SItem)) l_)),(2,(Pd.ptr En.SDesc d_)),(5,(Pi i3))]∧zcx.l1 d_ l_ r_ (zcx.j1 r_) k5 i3) k4 ⟨0,L.kk,h⟩ ?_;rintro k5 a s ⟨i3,L,h⟩ KL6 hKL6;unfold zcx.l1 at h;refine wp_seq_k fun K7 H7=>rA 4 L fun a s L=>?_;refine cn L h (fun h=>?_) fun h=>?_
 ·refine wp_skip (H7 _ _ ?_);refine wp_seq_k fun K8 H8=>wp_block ?_;obtain ⟨e9,h10,r11,h12,h⟩:=h;refine wp_seq (rdx 7 (pp h10 (p1 (zr6 h12))) L fun a s L=>?_);refine es (cn L h (fun h=>?_) fun h=>?_)
  ·refine rA 1 L fun a s L=>?_;subst h;exact wp_ret (zdm J L J)
  ·refine wp_skip (H8 _ _ ?_);obtain ⟨h13,h⟩:=h;refine rg (sA 3 L fun a s L=>?_);refine en' ?_;exact hKL6 a s ⟨(i3+1),L.kk,h⟩
 ·refine wp_exit ?_;exact J2 a s (L.kk) h
theorem znn {d_:SDesc} {l_:(List (List SItem))} {r_:(List Cl)} (h:zb2 d_ l_ r_):Fn Tryz.prog 28 [(Pd.rep En.SDesc d_),(Pd.rep (En.slice (En.slice En.SItem)) l_)] (Ro En.cls 51 r_):=by
 unfold zb2 at h;refine zbi Tryz.func28 J Tryz.ntmps28 (by rfl) (by simp) fun s0 a L=>?_;refine rs (sA 1 L fun a s L=>?_);refine sno En.cls 51 L fun a s L=>?_;refine es (rs ?_);refine sno En.cls 51 L fun a s L=>?_;refine es (wp_seq_k fun K1 H1=>?_);refine rA 1 L fun a s L=>?_;refine wp_block ?_;have J4:∀(list2:(List Cl)) (og3:Option Nat) (a:Act) (s:St),Has N0 22 s0 a s [(5,(Pd.row En.cls s0.w.heap.size 51 og3 list2))]→((zb2.j1 r_) list2)→K1 a s.w:=by
  intro list2 og3 a s L h;unfold zb2.j1 at h;show K1 a s.w;refine H1 _ _ (rA 2 L fun a s L=>?_);subst h;exact wp_ret (zet J L J)
 obtain ⟨k8,h⟩:=h;refine lpn (fun k9 a s=>∃(list5:(List Cl)) (i7:Int) (og6:Option Nat),Has N0 22 s0 a s [(1,(Pd.rep (En.slice (En.slice En.SItem)) l_)),(2,(Pd.ptr En.SDesc d_)),(5,(Pd.row En.cls s0.w.heap.size 51 og6 list5)),(6,(Pi i7))]∧zb2.l1 d_ l_ (zb2.j1 r_) k9 list5 i7) k8 ⟨([]:(List Cl)),0,none,L.kk,h⟩ ?_;rintro k9 a s ⟨list5,i7,og6,L,h⟩ KL10 hKL10;unfold zb2.l1 at h;refine wp_seq_k fun K11 H11=>rA 4 L fun a s L=>?_;refine cn L h (fun h=>?_) fun h=>?_
 ·refine wp_skip (H11 _ _ ?_);refine wp_seq_k fun K12 H12=>wp_block ?_;obtain ⟨e13,h14,r15,h16,h17,h⟩:=h;refine rdx 7 (pp h14 (p1 ((znp h16).frz))) L fun a s L=>?_;refine st_appB 20 32 L op op Ud.h Tq.h (by decide) ⟨_,J,by decide⟩ h17 J J J J ka fun a s og18 hg_ L=>?_;refine sA 1 L fun a s L=>?_;refine en' (H12 _ _ ?_);obtain ⟨h19,h⟩:=h;refine rg (sA 3 L fun a s L=>?_);refine en' ?_;exact hKL10 a s ⟨(list5++r15),(i7+1),og18,L.kk,h⟩
 ·refine wp_exit ?_;exact J4 list5 og6 a s (L.kk) h
theorem zrz {l_:(List Cl)} {r_:(List Cl)} (h:zbg l_ r_):Fn Tryz.prog 30 [(Pd.rep (En.slice En.cls) l_)] (Ro En.cls 51 r_):=by
 unfold zbg at h;refine zbi Tryz.func30 J Tryz.ntmps30 (by rfl) (by simp) fun s0 a L=>?_;refine rs (sno En.cls 51 L fun a s L=>?_);refine es (rs ?_);refine sno En.cls 51 L fun a s L=>?_;refine es (wp_seq_k fun K1 H1=>?_);refine rA 1 L fun a s L=>?_;refine wp_block ?_;have J4:∀(out2:(List Cl)) (og3:Option Nat) (a:Act) (s:St),Has N0 42 s0 a s [(3,(Pd.row En.cls s0.w.heap.size 51 og3 out2))]→((zbg.j1 r_) out2)→K1 a s.w:=by
  intro out2 og3 a s L h;unfold zbg.j1 at h;show K1 a s.w;refine H1 _ _ (rA 2 L fun a s L=>?_);subst h;exact wp_ret (zet J L J)
 obtain ⟨k8,h⟩:=h;refine lpn (fun k9 a s=>∃(out5:(List Cl)) (i7:Int) (og6:Option Nat),Has N0 42 s0 a s [(0,(Pd.rep (En.slice En.cls) l_)),(3,(Pd.row En.cls s0.w.heap.size 51 og6 out5)),(4,(Pi i7))]∧zbg.l1 l_ (zbg.j1 r_) k9 out5 i7) k8 ⟨([]:(List Cl)),0,none,L.kk,h⟩ ?_;rintro k9 a s ⟨out5,i7,og6,L,h⟩ KL10 hKL10;unfold zbg.l1 at h;refine wp_seq_k fun K11 H11=>rA 4 L fun a s L=>?_;refine cn L h (fun h=>?_) fun h=>?_
 ·refine wp_skip (H11 _ _ ?_);refine wp_seq_k fun K12 H12=>wp_block (rA 1 L fun a s L=>?_);refine wp_seq_k fun K13 H13=>rA 1 L fun a s L=>?_;refine wp_block ?_;have J15:∀(met14:Bool) (a:Act) (s:St),Has N0 42 s0 a s [(0,(Pd.rep (En.slice En.cls) l_)),(3,(Pd.row En.cls s0.w.heap.size 51 og6 out5)),(4,(Pi i7)),(5,(Pd.rep En.bool met14))]→((zbg.j2 (zbg.l1 l_ (zbg.j1 r_) k9) l_ out5 i7) met14)→K13 a s.w:=by
   intro met14 a s L h;unfold zbg.j2 at h;show K13 a s.w;refine H13 _ _ (rA 2 L fun a s L=>?_);refine cn L h (fun h=>?_) fun h=>?_
   ·obtain ⟨e16,h17,h18,h⟩:=h;refine rg (sl 6 (p1 h17) L fun a s L=>?_);refine zb4 40 L op op Ud.h Tq.h h18 J J J J ka fun a s og19 hg_ L=>?_;refine sA 1 L fun a s L=>?_;refine en' (H12 _ _ ?_);obtain ⟨h20,h⟩:=h;refine rg (sA 3 L fun a s L=>?_);refine en' ?_;exact hKL10 a s ⟨(out5++[e16]),(i7+1),og19,L.kk,h⟩
   ·refine wp_skip (H12 _ _ ?_);obtain ⟨h21,h⟩:=h;refine rg (sA 3 L fun a s L=>?_);refine en' ?_;exact hKL10 a s ⟨out5,(i7+1),og6,L.kk,h⟩
  obtain ⟨k24,h⟩:=h;refine lpn (fun k25 a s=>∃(met22:Bool) (k23:Int),Has N0 42 s0 a s [(0,(Pd.rep (En.slice En.cls) l_)),(3,(Pd.row En.cls s0.w.heap.size 51 og6 out5)),(4,(Pi i7)),(5,(Pd.rep En.bool met22)),(6,(Pi k23))]∧zbg.l2 l_ out5 i7 (zbg.j2 (zbg.l1 l_ (zbg.j1 r_) k9) l_ out5 i7) k25 met22 k23) k24 ⟨false,0,L.kk,h⟩ ?_;rintro k25 a s ⟨met22,k23,L,h⟩ KL26 hKL26;unfold zbg.l2 at h;refine wp_seq_k fun K27 H27=>rA 8 L fun a s L=>?_;refine cn L h (fun h=>?_) fun h=>?_
  ·refine wp_skip (H27 _ _ ?_);refine wp_seq_k fun K28 H28=>wp_block ?_;obtain ⟨e29,h30,e31,h32,h⟩:=h;refine rda zds 9 [(Pd.row En.cls s0.w.heap.size 51 og6 out5),(Pi k23),(Pd.optr En.cls s0.w.heap.size og6 ((k23:Int).toNat*En.cls.sz) e29),(Pd.rep En.cls e29),(Pd.rep (En.slice En.cls) l_),(Pi i7),(Pd.ptr En.cls e31),(Pd.rep En.cls e31),(Pd.rep En.bool (e29==e31))] L (by kernel_rfl) J J ?_ ?_
   ·refine zbf.cons (zo (O 3 J) J J) ?_;refine zbf.cons (zo (O 6 J) J J) ?_;refine zbf.cons (zec (O 23 J) (O 24 J) h30 U36 zgk J J) ?_;refine zbf.cons (zcm zgk (O 25 J) J J) ?_;refine zbf.cons (zo (O 0 J) J J) ?_;refine zbf.cons (zo (O 4 J) J J) ?_;refine zbf.cons (zmi (O 27 J) (O 28 J) h32 U36 zgk J J) ?_;refine zbf.cons (zb8 zgk (O 29 J) J J) ?_;refine zbf.cons (t_eqv eq51 (O 26 J) (O 30 J) J J) ?_;exact zbf.nil
   intro a s _ L;replace L:=L.kk (L':=[(0,(Pd.rep (En.slice En.cls) l_)),(3,(Pd.row En.cls s0.w.heap.size 51 og6 out5)),(4,(Pi i7)),(5,(Pd.rep En.bool met22)),(6,(Pi k23)),(31,(Pd.rep En.bool (e29==e31)))]);refine dp ?_;refine sA 1 L fun a s L=>?_;refine en' (H28 _ _ ?_);obtain ⟨h33,h⟩:=h;refine rg (sA 3 L fun a s L=>?_);refine en' ?_;exact hKL26 a s ⟨(e29==e31),(k23+1),L.kk,h⟩
  ·refine wp_exit ?_;exact J15 met22 a s (L.kk) h
 ·refine wp_exit ?_;exact J4 out5 og6 a s (L.kk) h
theorem zp8 {d_:SDesc} {l_:(List (List SItem))} {r_:(List Int)} (h:ziu d_ l_ r_):Fn Tryz.prog 25 [(Pd.rep En.SDesc d_),(Pd.rep (En.slice (En.slice En.SItem)) l_)] (Ro (En.int .u8) 5 r_):=by
 unfold ziu at h;refine zbi Tryz.func25 J Tryz.ntmps25 (by rfl) (by simp) fun s0 a L=>?_;refine rs (sA 1 L fun a s L=>?_);refine sno (En.int .u8) 5 L fun a s L=>?_;refine es ?_;obtain ⟨r1,h2,r3,h4,r5,h6,h⟩:=h;refine rs (sl 4 (pp ((znn h2).frz) (p1 ((zrz h4).frz))) L fun a s L=>?_);refine zco 9 L (zqg h6) opz J J J J fun a s og7 hg_ L=>?_;refine sA 1 L fun a s L=>?_;refine es ?_;subst h;exact wp_ret (zet J L J)
def z7.j1 (r_:(List Int)) (out2:(List Int)):Prop:=∃r5:(List Int),zx out2 r5∧r_=r5
def z7.l1 (l_:(List Smade_scantling_api_State_search)) (X1:(List Int)→Prop):Nat→Int→(List Int)→Prop
 | 0,_,_=>False
 | k_0+1,i7,out8=>∃e14:Smade_scantling_api_State_search,at? l_ i7=some e14∧((decide (0≤e14.2.1))=true→∃e17:Smade_scantling_api_State_search,at? l_ i7=some e17∧(out8.length+[e17.2.2].length≤2147483648)∧∃e21:Smade_scantling_api_State_search,at? l_ i7=some e21∧z7.l1 l_ X1 k_0 e21.2.1 (out8++[e17.2.2]))∧((decide (0≤e14.2.1))=false→X1 out8)
def z7 (l_:(List Smade_scantling_api_State_search)) (i_:Int) (r_:(List Int)):Prop:=∃k10,z7.l1 l_ (z7.j1 r_) k10 i_ ([]:(List Int))
def zf.j1 (r_:SFound_scantling_api_State_search) (v10:SFound_scantling_api_State_search) (list11:(List Smade_scantling_api_State_search)):Prop:=r_=((1,[],[],0,0,0,(list11.length:Int)),[])
def zf.j2 (L1_:SFound_scantling_api_State_search→(List Smade_scantling_api_State_search)→(List (Str × Bool))→Int→Prop) (v15:SFound_scantling_api_State_search) (i20:Int) (list40:(List Smade_scantling_api_State_search)) (seen42:(List (Str × Bool))):Prop:=(InR .i64 (i20+1))∧L1_ v15 list40 seen42 (i20+1)
def zf.l2 (s_:SSpace_scantling_api_State_search) (i20:Int) (r38:(List SOn_scantling_api_State_search)) (X2:(List Smade_scantling_api_State_search)→(List (Str × Bool))→Prop):Nat→(List Smade_scantling_api_State_search)→(List (Str × Bool))→Int→Prop
 | 0,_,_,_=>False
 | k_0+1,list49,seen51,v53=>((decide (v53<(r38.length:Int)))=true→∃e62:SOn_scantling_api_State_search,at? r38 v53=some e62∧∃r68:Str,s_.2.1 (e62.2,r68)∧(((!(zex seen51 r68 false)))=true→(list49.length+[(e62.2,i20,e62.1)].length≤2147483648)∧(InR .i64 (v53+1))∧zf.l2 s_ i20 r38 X2 k_0 (list49++[(e62.2,i20,e62.1)]) (zgb seen51 r68 true) (v53+1))∧(((!(zex seen51 r68 false)))=false→(InR .i64 (v53+1))∧zf.l2 s_ i20 r38 X2 k_0 list49 seen51 (v53+1)))∧((decide (v53<(r38.length:Int)))=false→X2 list49 seen51)
def zf.l1 (s_:SSpace_scantling_api_State_search) (budget_:Int) (r_:SFound_scantling_api_State_search) (X1:SFound_scantling_api_State_search→(List Smade_scantling_api_State_search)→Prop):Nat→SFound_scantling_api_State_search→(List Smade_scantling_api_State_search)→(List (Str × Bool))→Int→Prop
 | 0,_,_,_,_=>False
 | k_0+1,v15,list16,seen18,i20=>((decide (i20<(list16.length:Int)))=true→((decide (budget_≤i20))=true→r_=((3,[],[],0,0,0,(max budget_ 0)),[]))∧((decide (budget_≤i20))=false→∃e30:Smade_scantling_api_State_search,at? list16 i20=some e30∧∃r33:Bool,s_.2.2.2 (e30.1,r33)∧((r33)=true→∃r35:(List Int),z7 list16 i20 r35∧(InR .i64 (i20+1))∧r_=((2,r35,[],0,0,0,i20+1),e30.1))∧((r33)=false→∃r38:(List SOn_scantling_api_State_search),s_.2.2.1 (e30.1,r38)∧∃k54,zf.l2 s_ i20 r38 (zf.j2 (zf.l1 s_ budget_ r_ X1 k_0) v15 i20) k54 list16 seen18 0)))∧((decide (i20<(list16.length:Int)))=false→X1 v15 list16)
def zf (s_:SSpace_scantling_api_State_search) (budget_:Int) (r_:SFound_scantling_api_State_search):Prop:=∃r7:Str,s_.2.1 (s_.1,r7)∧∃k21,zf.l1 s_ budget_ r_ (zf.j1 r_) k21 ((0,[],[],0,0,0,0),[]) [(s_.1,(-1),0)] (zgb ([]:(List (Str × Bool))) r7 true) 0
def zkc (a_:SVerdict) (b_:SVerdict) (r_:Bool):Prop:=∃r1:Bool,((((a_.1==b_.1))=true)→zcc a_.2.1 b_.2.1 r1)∧∃r3:Bool,(((((a_.1==b_.1)&&r1))=true)→zcc a_.2.2.1 b_.2.2.1 r3)∧∃b5:Bool,b5=((((a_.1==b_.1)&&r1)&&r3)&&(a_.2.2.2.1==b_.2.2.2.1))∧∃b7:Bool,b7=((b5&&(a_.2.2.2.2.1==b_.2.2.2.2.1))&&(a_.2.2.2.2.2.1==b_.2.2.2.2.2.1))∧r_=(b7&&(a_.2.2.2.2.2.2==b_.2.2.2.2.2.2))
set_option maxRecDepth 100000
set_option maxHeartbeats 2000000
set_option synthInstance.maxSize 100000
set_option synthInstance.maxHeartbeats 200000
theorem zia {l_:(List Smade_scantling_api_State_search)} {i_:Int} {r_:(List Int)} (h:z7 l_ i_ r_):Fn Tryz.prog 113 [(Pd.rep (En.slice En.Smade_scantling_api_State_search) l_),(Pi i_)] (Ro (En.int .u8) 5 r_):=by
 unfold z7 at h;refine zbi Tryz.func113 J Tryz.ntmps113 (by rfl) (by simp) fun s0 a L=>?_;refine rs (sno (En.int .u8) 5 L fun a s L=>?_);refine es (rs ?_);refine sno (En.int .u8) 5 L fun a s L=>?_;refine es (wp_seq_k fun K1 H1=>?_);refine wp_block ?_;have J4:∀(out2:(List Int)) (og3:Option Nat) (a:Act) (s:St),Has N0 28 s0 a s [(5,(Pd.row (En.int .u8) s0.w.heap.size 5 og3 out2))]→((z7.j1 r_) out2)→K1 a s.w:=by
  intro out2 og3 a s L h;unfold z7.j1 at h;show K1 a s.w;refine H1 _ _ ?_;obtain ⟨r5,h6,h⟩:=h;refine rs (sA 1 L fun a s L=>?_);refine zlj 26 (fun v0=>zg4 v0 h6) L op opz J J J J kw fun a s L=>?_;refine es (rA 2 L fun a s L=>?_);subst h;exact wp_ret (zet J L J)
 obtain ⟨k10,h⟩:=h;refine lpn (fun k11 a s=>∃(i7:Int) (out8:(List Int)) (og9:Option Nat),Has N0 28 s0 a s [(0,(Pd.rep (En.slice En.Smade_scantling_api_State_search) l_)),(1,(Pi i7)),(5,(Pd.row (En.int .u8) s0.w.heap.size 5 og9 out8))]∧z7.l1 l_ (z7.j1 r_) k11 i7 out8) k10 ⟨i_,([]:(List Int)),none,L.kk,h⟩ ?_;rintro k11 a s ⟨i7,out8,og9,L,h⟩ KL12 hKL12;unfold z7.l1 at h;refine wp_seq_k fun K13 H13=>?_;obtain ⟨e14,h15,h⟩:=h;refine ra 6 (p1 h15) L fun a s L=>?_;refine cn L h (fun h=>?_) fun h=>?_
 ·refine wp_skip (H13 _ _ ?_);refine wp_seq_k fun K16 H16=>wp_block ?_;obtain ⟨e17,h18,h19,h⟩:=h;refine rg (sl 7 (p1 h18) L fun a s L=>?_);refine zb4 24 L op op Ud.h Tq.h h19 J J J J ka fun a s og20 hg_ L=>?_;refine sA 1 L fun a s L=>?_;refine en' (H16 _ _ ?_);obtain ⟨e21,h22,h⟩:=h;refine rg (sl 6 (p1 h22) L fun a s L=>?_);refine en' ?_;exact hKL12 a s ⟨e21.2.1,(out8++[e17.2.2]),og20,L.kk,h⟩
 ·refine wp_exit ?_;exact J4 out8 og9 a s (L.kk) h
theorem zf8 {s_:SSpace_scantling_api_State_search} {budget_:Int} {r_:SFound_scantling_api_State_search} (h:zf s_ budget_ r_):Fn Tryz.prog 78 [(Pd.rep En.SSpace_scantling_api_State_search s_),(Pi budget_)] (Rq (Pd.rep En.SFound_scantling_api_State_search r_)):=by
 unfold zf at h;refine zbi Tryz.func78 J Tryz.ntmps78 (by rfl) (by simp) fun s0 a L=>?_;refine rs (sA 1 L fun a s L=>?_);refine z8 En.SFound_scantling_api_State_search (z:=((0,[],[],0,0,0,0),[])) 4 L tyz108 J J J J fun a s g1 hg_ L=>?_;refine es (rs ?_);refine sA 2 L fun a s L=>?_;refine sv (zbj (x:=(s_.1,(-1),0)) (ps:=[(0,.tmp 13),(1,.const (.int .i64 (-1))),(2,.const (.int .u8 0))]) tyz152 J stt152 (.cons (i:=0) op J (zw (zk _ _ _)) (.cons (i:=1) op J (zi (zw (zk _ _ _)) J) (.cons (i:=2) op J (zi (zi (zk _ _ _) J) J) .nil))) J J) L fun a s L=>?_;have lt_d3:=L.blt 4 rfl;refine zd5 (xs:=[.tmp 14]) 15 L (.cons op .nil) Ud.h Tq.h J J (by decide) J J J J fun a s g2 hg_ L=>?_;have d3:=Dis.newg hg_ lt_d3;refine sA 1 L fun a s L=>?_;refine es ?_;obtain ⟨r7,h8,h⟩:=h;refine rs ?_;have lt_d6:=L.rlt 15 rfl;have lt_d5:=L.blt 4 rfl;refine zj8 16 En.str kvStr En.bool L J J J J fun a s g4 hg_ L=>?_;have d5:=Dis.newg hg_ lt_d5;have d6:=Dis.newg hg_ lt_d6;refine sA 4 L fun a s L=>?_;refine sv (zfw (q:=(s_.1,r7)) op h8 opz (fun _ _ _ h_=>h_) J J) L fun a s L=>?_;refine zhe L op op o_b Ud.h (zey Ud.h) (.inr J) J J kw fun s L=>?_;refine sA 2 L fun a s L=>?_;refine es (wp_seq_k fun K9 H9=>?_);refine rA 1 L fun a s L=>?_;refine wp_block ?_;have J13:∀(v10:SFound_scantling_api_State_search) (list11:(List Smade_scantling_api_State_search)) (og12:Option Nat) (a:Act) (s:St),Has N0 87 s0 a s [(4,(Pd.box En.SFound_scantling_api_State_search s0.w.heap.size g1 v10)),(5,(Pd.row En.Smade_scantling_api_State_search s0.w.heap.size 152 og12 list11))]→Dis (some g1) og12→((zf.j1 r_) v10 list11)→K9 a s.w:=by
  intro v10 list11 og12 a s L d14 h;unfold zf.j1 at h;show K9 a s.w;refine H9 _ _ (rs ?_);refine sA 2 L fun a s L=>?_;refine sv (zbj (x:=(1,[],[],0,0,0,(list11.length:Int))) (ps:=[(0,.const (.int .i64 1)),(6,.tmp 84)]) zps J stt58 (.cons (i:=0) op J (zw (zk _ _ _)) (.cons (i:=6) op J (zi (zi (zi (zi (zi (zi (zk _ _ _) J) J) J) J) J) J) .nil)) J J) L fun a s L=>?_;refine sv (zbj (x:=((1,[],[],0,0,0,(list11.length:Int)),[])) (ps:=[(0,.tmp 85)]) tyz108 J stt108 (.cons (i:=0) op J (zw (zk _ _ _)) .nil) J J) L fun a s L=>?_;refine sB 4 L fun s L=>?_;refine es ?_;subst h;exact wp_ret (retb J ty108 L J)
 obtain ⟨k21,h⟩:=h;refine lpn (fun k22 a s=>∃(v15:SFound_scantling_api_State_search) (list16:(List Smade_scantling_api_State_search)) (seen18:(List (Str × Bool))) (i20:Int) (og17:Option Nat) (og19:Option Nat),Has N0 87 s0 a s [(1,(Pi budget_)),(2,(Pd.ptr En.SSpace_scantling_api_State_search s_)),(4,(Pd.box En.SFound_scantling_api_State_search s0.w.heap.size g1 v15)),(5,(Pd.row En.Smade_scantling_api_State_search s0.w.heap.size 152 og17 list16)),(6,(Pd.map En.str kvStr En.bool s0.w.heap.size og19 seen18)),(7,(Pi i20))]∧Dis (some g1) og17∧Dis (some g1) og19∧Dis og17 og19∧zf.l1 s_ budget_ r_ (zf.j1 r_) k22 v15 list16 seen18 i20) k21 ⟨((0,[],[],0,0,0,0),[]),[(s_.1,(-1),0)],(zgb ([]:(List (Str × Bool))) r7 true),0,(some g2),(some g4),L.kk,(Dis.symm d3),(Dis.symm d5),(Dis.symm d6),h⟩ ?_;rintro k22 a s ⟨v15,list16,seen18,i20,og17,og19,L,d24,d25,d26,h⟩ KL23 hKL23;unfold zf.l1 at h;refine wp_seq_k fun K27 H27=>rA 4 L fun a s L=>?_;refine cn L h (fun h=>?_) fun h=>?_
 ·refine wp_skip (H27 _ _ ?_);refine wp_seq_k fun K28 H28=>wp_block (wp_seq_k fun K29 H29=>?_);refine rA 3 L fun a s L=>?_;refine cn L h (fun h=>?_) fun h=>?_
  ·refine rs ?_;refine sA 2 L fun a s L=>?_;refine sv (zbj (x:=(3,[],[],0,0,0,(max budget_ 0))) (ps:=[(0,.const (.int .i64 3)),(6,.tmp 33)]) zps J stt58 (.cons (i:=0) op J (zw (zk _ _ _)) (.cons (i:=6) op J (zi (zi (zi (zi (zi (zi (zk _ _ _) J) J) J) J) J) J) .nil)) J J) L fun a s L=>?_;refine sv (zbj (x:=((3,[],[],0,0,0,(max budget_ 0)),[])) (ps:=[(0,.tmp 34)]) tyz108 J stt108 (.cons (i:=0) op J (zw (zk _ _ _)) .nil) J J) L fun a s L=>?_;refine sB 4 L fun s L=>?_;refine es ?_;subst h;exact wp_ret (retb J ty108 L J)
  ·refine wp_skip (H29 _ _ ?_);obtain ⟨e30,h31,h⟩:=h;refine ra 6 (p1 h31) L fun a s L=>?_;refine wp_seq_k fun K32 H32=>?_;obtain ⟨r33,h34,h⟩:=h;refine rs (sA 3 L fun a s L=>?_);refine sv (zfw (q:=(e30.1,r33)) op h34 opz (fun _ _ _ h_=>h_) J J) L fun a s L=>?_;refine es (cn L h (fun h=>?_) fun h=>?_)
   ·refine fzc 5 L fun s L=>?_;obtain ⟨r35,h36,h37,h⟩:=h;refine rs (sl 5 (p1 ((zia h36).frz)) L fun a s L=>?_);refine sv (zbj (x:=(2,r35,[],0,0,0,i20+1)) (ps:=[(0,.const (.int .i64 2)),(1,.tmp 47),(6,.tmp 49)]) zps J stt58 (.cons (i:=0) op J (zw (zk _ _ _)) (.cons (i:=1) op J (zi (zw (zk _ _ _)) J) (.cons (i:=6) op J (zi (zi (zi (zi (zi (zi (zk _ _ _) J) J) J) J) J) J) .nil))) J J) L fun a s L=>?_;refine sA 1 L fun a s L=>?_;refine sv (zbj (x:=((2,r35,[],0,0,0,i20+1),e30.1)) (ps:=[(0,.tmp 50),(1,.tmp 51)]) tyz108 J stt108 (.cons (i:=0) op J (zw (zk _ _ _)) (.cons (i:=1) op J (zi (zk _ _ _) J) .nil)) J J) L fun a s L=>?_;replace L:=L.dr og19;refine sB 4 L fun s L=>?_;refine es ?_;subst h;exact wp_ret (retb J ty108 L J)
   ·refine wp_skip (H32 _ _ ?_);obtain ⟨r38,h39,h⟩:=h;refine rs (sA 3 L fun a s L=>?_);refine sv (zfw (q:=(e30.1,r38)) op h39 opz (fun _ _ _ h_=>h_) J J) L fun a s L=>?_;refine sA 2 L fun a s L=>?_;refine es (wp_block ?_);have J44:∀(list40:(List Smade_scantling_api_State_search)) (seen42:(List (Str × Bool))) (og41:Option Nat) (og43:Option Nat) (a:Act) (s:St),Has N0 87 s0 a s [(1,(Pi budget_)),(2,(Pd.ptr En.SSpace_scantling_api_State_search s_)),(4,(Pd.box En.SFound_scantling_api_State_search s0.w.heap.size g1 v15)),(5,(Pd.row En.Smade_scantling_api_State_search s0.w.heap.size 152 og41 list40)),(6,(Pd.map En.str kvStr En.bool s0.w.heap.size og43 seen42)),(7,(Pi i20))]→Dis (some g1) og41→Dis (some g1) og43→Dis og41 og43→((zf.j2 (zf.l1 s_ budget_ r_ (zf.j1 r_) k22) v15 i20) list40 seen42)→K28 a s.w:=by
     intro list40 seen42 og41 og43 a s L d45 d46 d47 h;unfold zf.j2 at h;show K28 a s.w;refine H28 _ _ ?_;obtain ⟨h48,h⟩:=h;refine rg (sA 3 L fun a s L=>?_);refine en' ?_;exact hKL23 a s ⟨v15,list40,seen42,(i20+1),og41,og43,L.kk,d45,d46,d47,h⟩
    obtain ⟨k54,h⟩:=h;refine lpn (fun k55 a s=>∃(list49:(List Smade_scantling_api_State_search)) (seen51:(List (Str × Bool))) (v53:Int) (og50:Option Nat) (og52:Option Nat),Has N0 87 s0 a s [(1,(Pi budget_)),(2,(Pd.ptr En.SSpace_scantling_api_State_search s_)),(4,(Pd.box En.SFound_scantling_api_State_search s0.w.heap.size g1 v15)),(5,(Pd.row En.Smade_scantling_api_State_search s0.w.heap.size 152 og50 list49)),(6,(Pd.map En.str kvStr En.bool s0.w.heap.size og52 seen51)),(7,(Pi i20)),(56,(Pd.rep (En.slice En.SOn_scantling_api_State_search) r38)),(57,(Pi (r38.length:Int))),(58,(Pi v53))]∧Dis (some g1) og50∧Dis (some g1) og52∧Dis og50 og52∧zf.l2 s_ i20 r38 (zf.j2 (zf.l1 s_ budget_ r_ (zf.j1 r_) k22) v15 i20) k55 list49 seen51 v53) k54 ⟨list16,seen18,0,og17,og19,L.kk,d24,d25,d26,h⟩ ?_;rintro k55 a s ⟨list49,seen51,v53,og50,og52,L,d57,d58,d59,h⟩ KL56 hKL56;unfold zf.l2 at h;refine rA 1 L fun a s L=>?_;refine wp_seq_k fun K60 H60=>cn L h (fun h=>?_) fun h=>?_
    ·refine wp_skip (H60 _ _ ?_);refine wp_seq_k fun K61 H61=>wp_block ?_;obtain ⟨e62,h63,h⟩:=h;refine rs (sl 2 (p1 h63) L fun a s L=>?_);have lt_d67:=L.mlt 6 rfl;have lt_d66:=L.rlt 5 rfl;have lt_d65:=L.blt 4 rfl;refine z8 En.SOn_scantling_api_State_search (z:=(0,[])) 10 L tyz150 J J J J fun a s g64 hg_ L=>?_;have d65:=Dis.newg hg_ lt_d65;have d66:=Dis.newg hg_ lt_d66;have d67:=Dis.newg hg_ lt_d67;refine sB 10 L fun s L=>?_;refine es ?_;obtain ⟨r68,h69,h⟩:=h;refine rs (sA 4 L fun a s L=>?_);refine sv (zfw (q:=(e62.2,r68)) op h69 opz (fun _ _ _ h_=>h_) J J) L fun a s L=>?_;refine sA 1 L fun a s L=>?_;refine es (rs ?_);refine sA 2 L fun a s L=>?_;refine sv (zqs op op Ud.h (zey Ud.h) tyv4 J J) L fun a s L=>?_;refine sA 1 L fun a s L=>?_;refine es (cn L h (fun h=>?_) fun h=>?_)
     ·refine rs ?_;refine sA 2 L fun a s L=>?_;refine zhe L op op o_b Ud.h (zey Ud.h) (.inl J) J J kw fun s L=>?_;refine es ?_;obtain ⟨h70,h⟩:=h;refine rg (sA 6 L fun a s L=>?_);refine sv (zbj (x:=(e62.2,i20,e62.1)) (ps:=[(0,.tmp 75),(1,.tmp 76),(2,.tmp 78)]) tyz152 J stt152 (.cons (i:=0) op J (zw (zk _ _ _)) (.cons (i:=1) op J (zi (zw (zk _ _ _)) J) (.cons (i:=2) op J (zi (zi (zk _ _ _) J) J) .nil))) J J) L fun a s L=>?_;refine sA 1 L fun a s L=>?_;have lt_og71_0:=L.blt 4 rfl;have lt_og71_1:=L.mlt 6 rfl;refine zb4 81 L op op Ud.h Tq.h h70 J J J J ka fun a s og71 hg_ L=>?_;have d72:=Dis.app hg_ (Dis.symm d57) lt_og71_0;have d73:=Dis.app hg_ d59 lt_og71_1;refine sA 1 L fun a s L=>?_;refine en' (H61 _ _ ?_);obtain ⟨h74,h⟩:=h;refine rg (sA 2 L fun a s L=>?_);refine en' ?_;exact hKL56 a s ⟨(list49++[(e62.2,i20,e62.1)]),(zgb seen51 r68 true),(v53+1),og71,og52,L.kk,(Dis.symm d72),d58,d73,h⟩
     ·refine wp_skip (H61 _ _ ?_);obtain ⟨h75,h⟩:=h;refine rg (sA 2 L fun a s L=>?_);refine en' ?_;exact hKL56 a s ⟨list49,seen51,(v53+1),og50,og52,L.kk,d57,d58,d59,h⟩
    ·refine wp_exit ?_;exact J44 list49 seen51 og50 og52 a s (L.kk) d57 d58 d59 h
 ·refine wp_exit ?_;exact J13 v15 list16 og17 a s (L.kk) d24 h
theorem zrw {a_:SVerdict} {b_:SVerdict} {r_:Bool} (h:zkc a_ b_ r_):Fn Tryz.prog 40 [(Pd.rep En.SVerdict a_),(Pd.rep En.SVerdict b_)] (Rq (Pd.rep En.bool r_)):=by
 unfold zkc at h;refine zbi Tryz.func40 J Tryz.ntmps40 (by rfl) (by simp) fun s0 a L=>?_;refine rA 3 L fun a s L=>?_;obtain ⟨r1,h2,r3,h4,b5,h6,b7,h8,h⟩:=h;refine ra 48 (pp (fun hc_=>(zhv (h2 hc_))) (pp (fun hc_=>(zhv (h4 hc_))) (pp h6 (p1 h8)))) L fun a s L=>?_;subst h;exact wp_ret (zdm J L J)
def zbr.j1 (r_:(List SOn_scantling_api_State_search)) (out4:(List SOn_scantling_api_State_search)):Prop:=r_=out4
def zbr.l1 (x_:Sof_word) (l_:(List (List SItem))) (r2:(List Int)) (X1:(List SOn_scantling_api_State_search)→Prop):Nat→(List SOn_scantling_api_State_search)→Int→Prop
 | 0,_,_=>False
 | k_0+1,out7,v9=>((decide (v9<(r2.length:Int)))=true→∃e15:Int,at? r2 v9=some e15∧∃r17:(List (List SItem)),zcs x_ l_ e15 r17∧(out7.length+[(e15,r17)].length≤2147483648)∧(InR .i64 (v9+1))∧zbr.l1 x_ l_ r2 X1 k_0 (out7++[(e15,r17)]) (v9+1))∧((decide (v9<(r2.length:Int)))=false→X1 out7)
def zbr (x_:Sof_word) (l_:(List (List SItem))) (r_:(List SOn_scantling_api_State_search)):Prop:=∃r2:(List Int),zj9 x_ l_ r2∧∃k10,zbr.l1 x_ l_ r2 (zbr.j1 r_) k10 ([]:(List SOn_scantling_api_State_search)) 0
def zeb (x_:Sof_word) (l_:(List (List SItem))) (r_:Bool):Prop:=∃r1:Bool,zji x_ l_ r1∧r_=r1
def zeo (d_:SDesc) (budget_:Int) (r_:SVerdict):Prop:=∃r4:(List (List SItem)),zh8 d_ r4∧∃r6:SFound_scantling_api_State_search,zf (r4,(fun q_=>zhh q_.1 q_.2),(fun q_=>zbr d_ q_.1 q_.2),(fun q_=>zeb d_ q_.1 q_.2)) budget_ r6∧r_=r6.1
def zjc (d_:SDesc) (w_:(List Int)) (r_:Bool):Prop:=∃r1:(List (List SItem)),zc3 d_ w_ r1∧∃r3:Bool,zji d_ r1 r3∧r_=r3
def zg8  (r_:Bool):Prop:=∃r1:Cl,zc9 0 255 r1∧∃r9:SDesc,zkg 4 [(2,0,0,0,0,r1,([]:Str))] [(3,0,0,0,0,(0#256),([97]:Str))] r9∧∃r15:SVerdict,zeo r9 9 r15∧∃r20:SVerdict,zeo [(2,0,0,0,0,(0#256),([]:Str))] 9 r20∧∃r26:Bool,((((r15.1==2))=true)→zcc r15.2.1 [0,97] r26)∧∃b28:Bool,b28=((((r15.1==2)&&r26)&&(r20.1==1))&&(r20.2.2.2.2.2.2==2))∧∃r30:SVerdict,(((b28)=true)→zeo r9 1 r30)∧∃r32:Bool,((((b28&&(r30.1==3)))=true)→zjc r9 [120,97] r32)∧∃r34:Bool,(((((b28&&(r30.1==3))&&r32))=true)→zjc r9 [97,120] r34)∧r_=(((b28&&(r30.1==3))&&r32)&&(!r34))
def zlz (d_:SDesc) (r_:Bool):Prop:=∃r1:Bool,zdr d_ r1∧∃r3:Int,((((r1&&(decide ((d_.length:Int)≤16))))=true)→zl d_ r3)∧∃b5:Bool,b5=((r1&&(decide ((d_.length:Int)≤16)))&&(decide (r3≤60)))∧∃r7:Bool,(((b5)=true)→ziw d_ r7)∧r_=(b5&&r7)
def zt.j1 (r_:(List SThing_ref18)) (out5:(List SThing_ref18)):Prop:=r_=out5
def zt.j2 (L1_:(List SThing_ref18)→Int→Prop) (i10:Int) (out22:(List SThing_ref18)):Prop:=(InR .i64 (i10+1))∧L1_ out22 (i10+1)
def zt.j3 (L2_:(List SThing_ref18)→Int→Prop) (i10:Int) (r20:(List Int)) (out26:(List SThing_ref18)) (k28:Int) (r38:(List (List SItem))) (there41:Bool):Prop:=(((!there41))=true→∃e45:SThing_ref18,at? out26 i10=some e45∧(e45.2.length≤2147483648)∧∃e48:Int,at? r20 k28=some e48∧(e45.2.length+[e48].length≤2147483648)∧(out26.length+[(r38,e45.2++[e48])].length≤2147483648)∧(InR .i64 (k28+1))∧L2_ (out26++[(r38,e45.2++[e48])]) (k28+1))∧(((!there41))=false→(InR .i64 (k28+1))∧L2_ out26 (k28+1))
def zt.l3 (out26:(List SThing_ref18)) (r38:(List (List SItem))) (X3:Bool→Prop):Nat→Bool→Int→Prop
 | 0,_,_=>False
 | k_0+1,there57,m58=>((decide (m58<(out26.length:Int)))=true→∃e64:SThing_ref18,(((there57)=false)→at? out26 m58=some e64)∧∃r66:Bool,(((there57)=false)→zc4 e64.1 r38 r66)∧(InR .i64 (m58+1))∧zt.l3 out26 r38 X3 k_0 (there57||r66) (m58+1))∧((decide (m58<(out26.length:Int)))=false→X3 there57)
def zt.l2 (d_:SDesc) (i10:Int) (r20:(List Int)) (X2:(List SThing_ref18)→Prop):Nat→(List SThing_ref18)→Int→Prop
 | 0,_,_=>False
 | k_0+1,out26,k28=>((decide (k28<(r20.length:Int)))=true→∃e34:SThing_ref18,at? out26 i10=some e34∧∃e36:Int,at? r20 k28=some e36∧∃r38:(List (List SItem)),zbl d_ e34.1 e36 r38∧∃k59,zt.l3 out26 r38 (zt.j3 (zt.l2 d_ i10 r20 X2 k_0) i10 r20 out26 k28 r38) k59 false 0)∧((decide (k28<(r20.length:Int)))=false→X2 out26)
def zt.l1 (d_:SDesc) (most_:Int) (X1:(List SThing_ref18)→Prop):Nat→(List SThing_ref18)→Int→Prop
 | 0,_,_=>False
 | k_0+1,out8,i10=>∃b15:Bool,b15=((decide (i10<(out8.length:Int)))&&(decide ((out8.length:Int)≤most_)))∧((b15)=true→∃e18:SThing_ref18,at? out8 i10=some e18∧∃r20:(List Int),ziu d_ e18.1 r20∧∃k29,zt.l2 d_ i10 r20 (zt.j2 (zt.l1 d_ most_ X1 k_0) i10) k29 out8 0)∧((b15)=false→X1 out8)
def zt (d_:SDesc) (most_:Int) (r_:(List SThing_ref18)):Prop:=∃r1:(List (List SItem)),zit d_ r1∧∃k11,zt.l1 d_ most_ (zt.j1 r_) k11 [(r1,[])] 0
def zch.j1 (budget_:Int) (r_:SVerdict) (r2:(List SThing_ref18)) (v5:SVerdict):Prop:=((decide ((r2.length:Int)≤(max 0 budget_)))=true→r_=(1,[],[],0,0,0,(r2.length:Int)))∧((decide ((r2.length:Int)≤(max 0 budget_)))=false→r_=(3,[],[],0,0,0,(max 0 budget_)))
def zch.l1 (d_:SDesc) (budget_:Int) (r2:(List SThing_ref18)) (r_:SVerdict) (X1:SVerdict→Prop):Nat→SVerdict→Int→Prop
 | 0,_,_=>False
 | k_0+1,v8,i9=>∃b14:Bool,b14=((decide (i9<(r2.length:Int)))&&(decide (i9<(max 0 budget_))))∧((b14)=true→∃e17:SThing_ref18,at? r2 i9=some e17∧∃r19:Bool,zcx d_ e17.1 r19∧((r19)=true→∃e21:SThing_ref18,at? r2 i9=some e21∧(InR .i64 (i9+1))∧r_=(2,e21.2,[],0,0,0,i9+1))∧((r19)=false→(InR .i64 (i9+1))∧zch.l1 d_ budget_ r2 r_ X1 k_0 v8 (i9+1)))∧((b14)=false→X1 v8)
def zch (d_:SDesc) (budget_:Int) (r_:SVerdict):Prop:=∃r2:(List SThing_ref18),zt d_ (max 0 budget_) r2∧∃k10,zch.l1 d_ budget_ r2 r_ (zch.j1 budget_ r_ r2) k10 (0,[],[],0,0,0,0) 0
def zg9 (d_:SDesc) (budget_:Int) (w_:(List Int)) (r_:Bool):Prop:=∃r2:Bool,zg8  r2∧∃r4:Bool,((((!r2))=false)→zlz d_ r4)∧∃b6:Bool,b6=((((!r2)||(!r4))||(decide (40<budget_)))||(decide (8<(w_.length:Int))))∧∃r8:Bool,(((b6)=false)→zg7 d_ d_ budget_ r8)∧(((b6||(!r8)))=true→∃r10:Bool,zg8  r10∧r_=r10)∧(((b6||(!r8)))=false→∃r12:SVerdict,zeo d_ budget_ r12∧∃r14:SVerdict,zch d_ budget_ r14∧∃r16:Bool,zkc r12 r14 r16∧∃r18:Bool,(((r16)=true)→zjc d_ w_ r18)∧∃r20:Int,(((r16)=true)→zkf d_ w_ r20)∧r_=(r16&&(r18==(decide (0<r20)))))
set_option maxRecDepth 100000
set_option maxHeartbeats 2000000
set_option synthInstance.maxSize 100000
set_option synthInstance.maxHeartbeats 200000
theorem zob {x_:Sof_word} {l_:(List (List SItem))} {r_:(List SOn_scantling_api_State_search)} (h:zbr x_ l_ r_):Fn Tryz.prog 76 [(Pd.rep En.Sof_word x_),(Pd.rep (En.slice (En.slice En.SItem)) l_)] (Ro En.SOn_scantling_api_State_search 150 r_):=by
 unfold zbr at h;refine zbi Tryz.func76 J Tryz.ntmps76 (by rfl) (by simp) fun s0 a L=>?_;refine rs (sA 1 L fun a s L=>?_);refine sno En.SOn_scantling_api_State_search 150 L fun a s L=>?_;refine es (rs ?_);refine sno En.SOn_scantling_api_State_search 150 L fun a s L=>?_;refine es (wp_seq_k fun K1 H1=>?_);obtain ⟨r2,h3,h⟩:=h;refine ra 6 (p1 ((zrn h3).frz)) L fun a s L=>?_;refine wp_block ?_;have J6:∀(out4:(List SOn_scantling_api_State_search)) (og5:Option Nat) (a:Act) (s:St),Has N0 29 s0 a s [(5,(Pd.row En.SOn_scantling_api_State_search s0.w.heap.size 150 og5 out4))]→((zbr.j1 r_) out4)→K1 a s.w:=by
  intro out4 og5 a s L h;unfold zbr.j1 at h;show K1 a s.w;refine H1 _ _ (rA 2 L fun a s L=>?_);subst h;exact wp_ret (zet J L J)
 obtain ⟨k10,h⟩:=h;refine lpn (fun k11 a s=>∃(out7:(List SOn_scantling_api_State_search)) (v9:Int) (og8:Option Nat),Has N0 29 s0 a s [(1,(Pd.rep (En.slice (En.slice En.SItem)) l_)),(2,(Pd.ptr En.Sof_word x_)),(5,(Pd.row En.SOn_scantling_api_State_search s0.w.heap.size 150 og8 out7)),(11,(Pd.rep (En.slice (En.int .u8)) r2)),(12,(Pi (r2.length:Int))),(13,(Pi v9))]∧zbr.l1 x_ l_ r2 (zbr.j1 r_) k11 out7 v9) k10 ⟨([]:(List SOn_scantling_api_State_search)),0,none,L.kk,h⟩ ?_;rintro k11 a s ⟨out7,v9,og8,L,h⟩ KL12 hKL12;unfold zbr.l1 at h;refine rA 1 L fun a s L=>?_;refine wp_seq_k fun K13 H13=>cn L h (fun h=>?_) fun h=>?_
 ·refine wp_skip (H13 _ _ ?_);refine wp_seq_k fun K14 H14=>wp_block ?_;obtain ⟨e15,h16,h⟩:=h;refine ra 3 (p1 h16) L fun a s L=>?_;obtain ⟨r17,h18,h19,h⟩:=h;refine rg (sl 7 (p1 ((zqy h18).frz)) L fun a s L=>?_);refine sv (zbj (x:=(e15,r17)) (ps:=[(0,.tmp 18),(1,.tmp 23)]) tyz150 J stt150 (.cons (i:=0) op J (zw (zk _ _ _)) (.cons (i:=1) op J (zi (zk _ _ _) J) .nil)) J J) L fun a s L=>?_;refine sA 1 L fun a s L=>?_;refine zb4 26 L op op Ud.h Tq.h h19 J J J J ka fun a s og20 hg_ L=>?_;refine sA 1 L fun a s L=>?_;refine en' (H14 _ _ ?_);obtain ⟨h21,h⟩:=h;refine rg (sA 2 L fun a s L=>?_);refine en' ?_;exact hKL12 a s ⟨(out7++[(e15,r17)]),(v9+1),og20,L.kk,h⟩
 ·refine wp_exit ?_;exact J6 out7 og8 a s (L.kk) h
theorem zoc {x_:Sof_word} {l_:(List (List SItem))} {r_:Bool} (h:zeb x_ l_ r_):Fn Tryz.prog 77 [(Pd.rep En.Sof_word x_),(Pd.rep (En.slice (En.slice En.SItem)) l_)] (Rq (Pd.rep En.bool r_)):=by
 unfold zeb at h;refine zbi Tryz.func77 J Tryz.ntmps77 (by rfl) (by simp) fun s0 a L=>?_;refine rA 2 L fun a s L=>?_;obtain ⟨r1,h2,h⟩:=h;refine ra 5 (p1 (zm8 h2)) L fun a s L=>?_;subst h;exact wp_ret (zdm J L J)
theorem zgr {d_:SDesc} {budget_:Int} {r_:SVerdict} (h:zeo d_ budget_ r_):Fn Tryz.prog 41 [(Pd.rep En.SDesc d_),(Pi budget_)] (Rq (Pd.rep En.SVerdict r_)):=by
 unfold zeo at h;refine zbi Tryz.func41 J Tryz.ntmps41 (by rfl) (by simp) fun s0 a L=>?_;refine rs (sA 1 L fun a s L=>?_);refine z8 En.SVerdict (z:=(0,[],[],0,0,0,0)) 4 L zps J J J J fun a s g1 hg_ L=>?_;refine es (rs ?_);refine sA 1 L fun a s L=>?_;refine sv (zbj (x:=d_) (ps:=[(0,.tmp 6)]) tyz106 J stt106 (.cons (i:=0) op J (zli (zk _ _ _)) .nil) J J) L fun a s L=>?_;have lt_d3:=L.blt 4 rfl;refine z8 En.Sof_word (z:=[]) 5 L tyz106 J J J J fun a s g2 hg_ L=>?_;have d3:=Dis.newg hg_ lt_d3;refine sB 5 L fun s L=>?_;refine es ?_;obtain ⟨r4,h5,r6,h7,h⟩:=h;refine wp_seq (rda zds 10 [(Pd.rep En.SDesc d_),(Pd.rep (En.slice (En.slice En.SItem)) r4),(Pd.rep En.Sof_word d_),(Pd.rep EnF109 (fun q_=>zbr d_ q_.1 q_.2)),(Pd.rep En.Sof_word d_),(Pd.rep EnF110 (fun q_=>zeb d_ q_.1 q_.2)),(Pd.rep En.SSpace_scantling_api_State_search (r4,(fun q_=>zhh q_.1 q_.2),(fun q_=>zbr d_ q_.1 q_.2),(fun q_=>zeb d_ q_.1 q_.2))),(Pi budget_),(Pd.rep En.SFound_scantling_api_State_search r6),(Pd.rep En.SVerdict r6.1)] L (by kernel_rfl) J J ?_ ?_)
 ·refine zbf.cons (zb8 ty24 (O 2 J) J J) ?_;refine zbf.cons (ze7 ((zlm h5).frz) (xs:=[.tmp 8]) (.cons (O 8 J) .nil) J J) ?_;refine zbf.cons (zjd ty106 (O 5 J) J J) ?_;refine zbf.cons (t_q (Pd.rep EnF109 (fun q_=>zbr d_ q_.1 q_.2)) (t_mkmeth (cs:=[.tmp 10]) (.cons (O 10 J) .nil) (zfh Tryz.func76 J (by rfl)) (zn4 enc_rep ztg) (fun q_ h_=>(zob h_).frz) J J)) ?_;refine zbf.cons (zjd ty106 (O 5 J) J J) ?_;refine zbf.cons (t_q (Pd.rep EnF110 (fun q_=>zeb d_ q_.1 q_.2)) (t_mkmeth (cs:=[.tmp 12]) (.cons (O 12 J) .nil) (zfh Tryz.func77 J (by rfl)) (zn4 enc_rep ztg) (fun q_ h_=>zoc h_) J J)) ?_;refine zbf.cons (zbj (x:=(r4,(fun q_=>zhh q_.1 q_.2),(fun q_=>zbr d_ q_.1 q_.2),(fun q_=>zeb d_ q_.1 q_.2))) (ps:=[(0,.tmp 9),(1,.func 35),(2,.tmp 11),(3,.tmp 13)]) tyz112 J stt112 (.cons (i:=0) (O 9 J) J (zw (zk _ _ _)) (.cons (i:=1) (o_q (Pd.rep EnF43 (fun q_=>zhh q_.1 q_.2)) (o_fun (zfh Tryz.func35 J (by rfl)) (fun q_ h_=>sets_Key_ok h_))) J (zi (zw (zk _ _ _)) J) (.cons (i:=2) (O 11 J) J (zi (zi (zw (zk _ _ _)) J) J) (.cons (i:=3) (O 13 J) J (zi (zi (zi (zk _ _ _) J) J) J) .nil)))) J J) ?_;refine zbf.cons (zo (O 1 J) J J) ?_;refine zbf.cons (ze7 (zf8 h7) (xs:=[.tmp 14,.tmp 15]) (.cons (O 14 J) (.cons (O 15 J) .nil)) J J) ?_;refine zbf.cons (t_fv (off:=0) (O 16 J) J U108 J (zbk (z6 _ _)) J ty58 J J) ?_;exact zbf.nil
 intro a s _ L;replace L:=L.kk (L':=[(4,(Pd.box En.SVerdict s0.w.heap.size g1 (0,[],[],0,0,0,0))),(17,(Pd.rep En.SVerdict r6.1))]);refine dp ?_;refine sB 4 L fun s L=>?_;refine es ?_;subst h;exact wp_ret (retb J ty58 L J)
theorem zmd {d_:SDesc} {w_:(List Int)} {r_:Bool} (h:zjc d_ w_ r_):Fn Tryz.prog 43 [(Pd.rep En.SDesc d_),(Pd.rep (En.slice (En.int .u8)) w_)] (Rq (Pd.rep En.bool r_)):=by
 unfold zjc at h;refine zbi Tryz.func43 J Tryz.ntmps43 (by rfl) (by simp) fun s0 a L=>?_;refine rA 2 L fun a s L=>?_;obtain ⟨r1,h2,r3,h4,h⟩:=h;refine wp_seq (rdx 5 (pp ((zro h2).frz) (p1 (zm8 h4))) L fun a s L=>?_);refine sA 1 L fun a s L=>?_;refine es ?_;subst h;exact wp_ret (zdm J L J)
theorem zk2  {r_:Bool} (h:zg8  r_):Fn Tryz.prog 37 [] (Rq (Pd.rep En.bool r_)):=by
 unfold zg8 at h;refine zbi Tryz.func37 J Tryz.ntmps37 (by rfl) (by simp) fun s0 a L=>?_;refine rA 1 L fun a s L=>?_;obtain ⟨r1,h2,h⟩:=h;refine rs (sl 1 (p1 (zjl h2)) L fun a s L=>?_);refine sv (zbj (x:=(2,0,0,0,0,r1,([]:Str))) (ps:=[(0,.const (.int .i64 2)),(5,.tmp 7)]) zku J stt68 (.cons (i:=0) op J (zw (zk _ _ _)) (.cons (i:=5) op J (zi (zi (zi (zi (zi (zw (zk _ _ _)) J) J) J) J) J) .nil)) J J) L fun a s L=>?_;refine sA 1 L fun a s L=>?_;refine sv (zbj (x:=[(2,0,0,0,0,r1,([]:Str))]) (ps:=[(0,.tmp 9)]) zrj J stt24 (.cons (i:=0) op J (zli (zk _ _ _)) .nil) J J) L fun a s L=>?_;refine z8 En.SDesc (z:=[]) 1 L zrj J J J J fun a s g3 hg_ L=>?_;refine sB 1 L fun s L=>?_;refine es (rs ?_);refine sv (zbj (x:=(3,0,0,0,0,(0#256),([97]:Str))) (ps:=[(0,.const (.int .i64 3)),(6,.const (.string ⟨#[97]⟩))]) zku J stt68 (.cons (i:=0) op J (zw (zk _ _ _)) (.cons (i:=6) (o_s (by decide)) J (zi (zi (zi (zi (zi (zi (zk _ _ _) J) J) J) J) J) J) .nil)) J J) L fun a s L=>?_;refine sA 1 L fun a s L=>?_;refine sv (zbj (x:=[(3,0,0,0,0,(0#256),([97]:Str))]) (ps:=[(0,.tmp 12)]) zrj J stt24 (.cons (i:=0) op J (zli (zk _ _ _)) .nil) J J) L fun a s L=>?_;have lt_d5:=L.blt 1 rfl;refine z8 En.SDesc (z:=[]) 2 L zrj J J J J fun a s g4 hg_ L=>?_;have d5:=Dis.newg hg_ lt_d5;refine sB 2 L fun s L=>?_;refine es (rs ?_);refine sv (zbj (x:=(2,0,0,0,0,(0#256),([]:Str))) (ps:=[(0,.const (.int .i64 2))]) zku J stt68 (.cons (i:=0) op J (zw (zk _ _ _)) .nil) J J) L fun a s L=>?_;refine sA 1 L fun a s L=>?_;refine sv (zbj (x:=[(2,0,0,0,0,(0#256),([]:Str))]) (ps:=[(0,.tmp 15)]) zrj J stt24 (.cons (i:=0) op J (zli (zk _ _ _)) .nil) J J) L fun a s L=>?_
 have lt_d8:=L.blt 2 rfl;have lt_d7:=L.blt 1 rfl;refine z8 En.SDesc (z:=[]) 3 L zrj J J J J fun a s g6 hg_ L=>?_;have d7:=Dis.newg hg_ lt_d7;have d8:=Dis.newg hg_ lt_d8;refine sB 3 L fun s L=>?_;refine es ?_;obtain ⟨r9,h10,h⟩:=h;refine rs (sl 3 (p1 (zsi h10)) L fun a s L=>?_);have lt_d14:=L.blt 3 rfl;have lt_d13:=L.blt 2 rfl;have lt_d12:=L.blt 1 rfl;refine z8 En.SDesc (z:=[]) 4 L zrj J J J J fun a s g11 hg_ L=>?_;have d12:=Dis.newg hg_ lt_d12;have d13:=Dis.newg hg_ lt_d13;have d14:=Dis.newg hg_ lt_d14;refine sB 4 L fun s L=>?_;refine es ?_;obtain ⟨r15,h16,h⟩:=h;refine rs (sl 2 (p1 (zgr h16)) L fun a s L=>?_);have lt_d19:=L.blt 4 rfl;have lt_d18:=L.blt 3 rfl;refine z8 En.SVerdict (z:=(0,[],[],0,0,0,0)) 5 L zps J J J J fun a s g17 hg_ L=>?_;have d18:=Dis.newg hg_ lt_d18;have d19:=Dis.newg hg_ lt_d19;replace L:=L.dr (some g3);replace L:=L.dr (some g4);refine sB 5 L fun s L=>?_;refine es ?_;obtain ⟨r20,h21,h⟩:=h;refine rs (sl 2 (p1 (zgr h21)) L fun a s L=>?_);have lt_d25:=L.blt 5 rfl;have lt_d24:=L.blt 4 rfl;have lt_d23:=L.blt 3 rfl;refine z8 En.SVerdict (z:=(0,[],[],0,0,0,0)) 6 L zps J J J J fun a s g22 hg_ L=>?_;have d23:=Dis.newg hg_ lt_d23;have d24:=Dis.newg hg_ lt_d24;have d25:=Dis.newg hg_ lt_d25;refine sB 6 L fun s L=>?_;refine es ?_;obtain ⟨r26,h27,b28,h29,r30,h31,r32,h33,r34,h35,h⟩:=h;refine rs (sl 27 (pp (fun hc_=>(zhv (h27 hc_))) (pp h29 (pp (fun hc_=>(zgr (h31 hc_))) trivial))) L fun a s L=>?_);refine st_blitg (xs:=[.const (.int .u8 120),.const (.int .u8 97)]) 51 52 J J J J J L (.cons op (.cons op .nil)) Ud.h Ud.h Tq.h J J (by decide) J J J J J J fun a s L=>?_
 refine sl 4 (pp (fun hc_=>(zmd (h33 hc_))) trivial) L fun a s L=>?_;refine st_blitg (xs:=[.const (.int .u8 97),.const (.int .u8 120)]) 57 58 J J J J J L (.cons op (.cons op .nil)) Ud.h Ud.h Tq.h J J (by decide) J J J J J J fun a s L=>?_;refine sl 4 (pp (fun hc_=>(zmd (h35 hc_))) trivial) L fun a s L=>?_;refine es ?_;subst h;exact wp_ret (zdm J L J)
theorem law18_few_ok {d_:SDesc} {r_:Bool} (h:zlz d_ r_):Fn Tryz.prog 38 [(Pd.rep En.SDesc d_)] (Rq (Pd.rep En.bool r_)):=by
 unfold zlz at h;refine zbi Tryz.func38 J Tryz.ntmps38 (by rfl) (by simp) fun s0 a L=>?_;refine rA 2 L fun a s L=>?_;obtain ⟨r1,h2,r3,h4,b5,h6,r7,h8,h⟩:=h;refine ra 18 (pp (ref04_Few_ok h2) (pp (fun hc_=>(zou (h4 hc_))) (pp h6 (pp (fun hc_=>(zqc (h8 hc_))) trivial)))) L fun a s L=>?_;subst h;exact wp_ret (zdm J L J)
theorem zos {d_:SDesc} {most_:Int} {r_:(List SThing_ref18)} (h:zt d_ most_ r_):Fn Tryz.prog 79 [(Pd.rep En.SDesc d_),(Pi most_)] (Ro En.SThing_ref18 117 r_):=by
 unfold zt at h;refine zbi Tryz.func79 J Tryz.ntmps79 (by rfl) (by simp) fun s0 a L=>?_;refine rs (sA 1 L fun a s L=>?_);refine sno En.SThing_ref18 117 L fun a s L=>?_;refine es ?_;obtain ⟨r1,h2,h⟩:=h;refine rs (sl 2 (p1 ((zp6 h2).frz)) L fun a s L=>?_);refine sv (zbj (x:=(r1,[])) (ps:=[(0,.tmp 13)]) tyz117 J stt117 (.cons (i:=0) op J (zw (zk _ _ _)) .nil) J J) L fun a s L=>?_;refine zd5 (xs:=[.tmp 14]) 15 L (.cons op .nil) Ud.h Tq.h J J (by decide) J J J J fun a s g3 hg_ L=>?_;refine sA 1 L fun a s L=>?_;refine es (wp_seq_k fun K4 H4=>?_);refine rA 1 L fun a s L=>?_;refine wp_block ?_;have J7:∀(out5:(List SThing_ref18)) (og6:Option Nat) (a:Act) (s:St),Has N0 89 s0 a s [(5,(Pd.row En.SThing_ref18 s0.w.heap.size 117 og6 out5))]→((zt.j1 r_) out5)→K4 a s.w:=by
  intro out5 og6 a s L h;unfold zt.j1 at h;show K4 a s.w;refine H4 _ _ (rA 2 L fun a s L=>?_);subst h;exact wp_ret (zet J L J)
 obtain ⟨k11,h⟩:=h;refine lpn (fun k12 a s=>∃(out8:(List SThing_ref18)) (i10:Int) (og9:Option Nat),Has N0 89 s0 a s [(1,(Pi most_)),(2,(Pd.ptr En.SDesc d_)),(5,(Pd.row En.SThing_ref18 s0.w.heap.size 117 og9 out8)),(6,(Pi i10))]∧zt.l1 d_ most_ (zt.j1 r_) k12 out8 i10) k11 ⟨[(r1,[])],0,(some g3),L.kk,h⟩ ?_;rintro k12 a s ⟨out8,i10,og9,L,h⟩ KL13 hKL13;unfold zt.l1 at h;refine wp_seq_k fun K14 H14=>?_;obtain ⟨b15,h16,h⟩:=h;refine ra 10 (p1 h16) L fun a s L=>?_;refine cn L h (fun h=>?_) fun h=>?_
 ·refine wp_skip (H14 _ _ ?_);refine wp_seq_k fun K17 H17=>wp_block ?_;obtain ⟨e18,h19,r20,h21,h⟩:=h;refine wp_seq (rdx 7 (pp h19 (p1 ((zp8 h21).frz))) L fun a s L=>?_);refine sA 1 L fun a s L=>?_;refine es (rA 1 L fun a s L=>?_);refine wp_block ?_;have J24:∀(out22:(List SThing_ref18)) (og23:Option Nat) (a:Act) (s:St),Has N0 89 s0 a s [(1,(Pi most_)),(2,(Pd.ptr En.SDesc d_)),(5,(Pd.row En.SThing_ref18 s0.w.heap.size 117 og23 out22)),(6,(Pi i10))]→((zt.j2 (zt.l1 d_ most_ (zt.j1 r_) k12) i10) out22)→K17 a s.w:=by
   intro out22 og23 a s L h;unfold zt.j2 at h;show K17 a s.w;refine H17 _ _ ?_;obtain ⟨h25,h⟩:=h;refine rg (sA 3 L fun a s L=>?_);refine en' ?_;exact hKL13 a s ⟨out22,(i10+1),og23,L.kk,h⟩
  obtain ⟨k29,h⟩:=h;refine lpn (fun k30 a s=>∃(out26:(List SThing_ref18)) (k28:Int) (og27:Option Nat),Has N0 89 s0 a s [(1,(Pi most_)),(2,(Pd.ptr En.SDesc d_)),(5,(Pd.row En.SThing_ref18 s0.w.heap.size 117 og27 out26)),(6,(Pi i10)),(7,(Pd.rep (En.slice (En.int .u8)) r20)),(8,(Pi k28))]∧zt.l2 d_ i10 r20 (zt.j2 (zt.l1 d_ most_ (zt.j1 r_) k12) i10) k30 out26 k28) k29 ⟨out8,0,og9,L.kk,h⟩ ?_;rintro k30 a s ⟨out26,k28,og27,L,h⟩ KL31 hKL31;unfold zt.l2 at h;refine wp_seq_k fun K32 H32=>rA 4 L fun a s L=>?_;refine cn L h (fun h=>?_) fun h=>?_
  ·refine wp_skip (H32 _ _ ?_);refine wp_seq_k fun K33 H33=>wp_block ?_;obtain ⟨e34,h35,e36,h37,r38,h39,h⟩:=h;refine wp_seq (rdx 11 (pp h35 (pp h37 (p1 ((ref16_On_ok h39).frz)))) L fun a s L=>?_);refine sA 1 L fun a s L=>?_;refine es (rA 1 L fun a s L=>?_);refine wp_seq_k fun K40 H40=>rA 1 L fun a s L=>?_;refine wp_block ?_;have J42:∀(there41:Bool) (a:Act) (s:St),Has N0 89 s0 a s [(1,(Pi most_)),(2,(Pd.ptr En.SDesc d_)),(5,(Pd.row En.SThing_ref18 s0.w.heap.size 117 og27 out26)),(6,(Pi i10)),(7,(Pd.rep (En.slice (En.int .u8)) r20)),(8,(Pi k28)),(9,(Pd.rep (En.slice (En.slice En.SItem)) r38)),(10,(Pd.rep En.bool there41))]→((zt.j3 (zt.l2 d_ i10 r20 (zt.j2 (zt.l1 d_ most_ (zt.j1 r_) k12) i10) k30) i10 r20 out26 k28 r38) there41)→K40 a s.w:=by
    intro there41 a s L h;unfold zt.j3 at h;show K40 a s.w;refine H40 _ _ (rA 2 L fun a s L=>?_);refine cn L h (fun h=>?_) fun h=>?_
    ·obtain ⟨e45,h46,h47,e48,h49,h50,h53,h⟩:=h;replace L:=L.kk (L':=[(1,(Pi most_)),(2,(Pd.ptr En.SDesc d_)),(5,(Pd.row En.SThing_ref18 s0.w.heap.size 117 og27 out26)),(6,(Pi i10)),(7,(Pd.rep (En.slice (En.int .u8)) r20)),(8,(Pi k28)),(9,(Pd.rep (En.slice (En.slice En.SItem)) r38))]);obtain ⟨K43,H43,nK43,L⟩:=L.mark 999983;have lt44:∀k,og27=some k→k<K43:=by rw [H43];exact L.rlt 5 rfl
     refine rdf 19 zds L (by kernel_rfl) fun s _ L=>?_;refine zes 0 70 L (by rfl) (by kernel_rfl) (by kernel_rfl) (by kernel_rfl) (fun _ _ _ _ h=>h) (q:=(Pd.row En.SThing_ref18 s0.w.heap.size 117 og27 out26)) (zh5 (O 5 J) J J) J J fun a L=>?_;refine rc_go 15 [(Pd.row En.SThing_ref18 s0.w.heap.size 117 og27 out26),(Pd.rep (En.slice (En.slice En.SItem)) r38),(Pd.erow0 s0.w.heap.size K43 5),(Pd.row En.SThing_ref18 s0.w.heap.size 117 og27 out26),(Pi i10),(Pd.optr En.SThing_ref18 s0.w.heap.size og27 ((i10:Int).toNat*En.SThing_ref18.sz) e45),(Pd.optr (En.slice (En.int .u8)) s0.w.heap.size og27 ((i10:Int).toNat*En.SThing_ref18.sz+1) e45.2),(Pd.rep (En.slice (En.int .u8)) e45.2),(Pd.erow (En.int .u8) s0.w.heap.size K43 5 e45.2),(Pd.rep (En.slice (En.int .u8)) r20),(Pi k28),(Pd.ptr (En.int .u8) e48),(Pd.rep (En.int .u8) e48),(Pd.rep (En.slice (En.int .u8)) [e48]),(Pd.erow (En.int .u8) s0.w.heap.size K43 5 (e45.2++[e48]))] [0] K43 [2,8,14] nK43 L (.cons (t:=70) J (fun b_ h_=>Nat.not_le.2 (lt44 b_ h_)) (.k 999983 (.k 1 (.k 2 (.cons (t:=5) J (fun b_ h_=>Nat.not_le.2 (lt44 b_ h_)) (.k 6 (.k 7 (.k 8 (.k 9 .nil))))))))) (by kernel_rfl) (by kernel_rfl) (by kernel_rfl) (by kernel_rfl) (.cons (i:=0) J J J J .nil) J J ?_ ?_
     ·refine zhp.skip J (fun b_ h_=>Nat.not_le.2 (lt44 b_ h_)) ?_;refine zhp.t (zo (O 9 J) J J) nE ?_;refine zhp.c (t_newx (En.int .u8) (K:=K43) (m:=999983) J nK43 U26 ty5 J J) J ?_;refine zhp.t (zo (O 5 J) J J) (fun b_ h_=>Nat.not_le.2 (lt44 b_ h_)) ?_;refine zhp.t (zo (O 6 J) J J) nE ?_;refine zhp.t (zec (O 73 J) (O 74 J) h46 U114 ty117 J J) (fun b_ h_=>Nat.not_le.2 (lt44 b_ h_)) ?_;refine zhp.t (t_fao (off:=1) (O 75 J) U117 J (zn (z6 _ _) J) J ty26 J J) (fun b_ h_=>Nat.not_le.2 (lt44 b_ h_)) ?_;refine zhp.t (zcm ty26 (O 76 J) J J) nE ?_;refine zhp.c (t_app0 (O 72 J) (O 77 J) U26 ty5 h47 (m:=999983) J J J) J ?_;refine zhp.t (zo (O 7 J) J J) nE ?_;refine zhp.t (zo (O 8 J) J J) nE ?_;refine zhp.t (zmi (O 79 J) (O 80 J) h49 U26 ty5 J J) nE ?_;refine zhp.t (zb8 ty5 (O 81 J) J J) nE ?_;refine zhp.t (t_lit (xs:=[.tmp 82]) (.cons (O 82 J) .nil) U26 ty5 J J (by decide) J J) nE ?_;refine zhp.x (t_appx (O 78 J) (O 83 J) U26 ty5 nK43 h50 (m:=999983) J J J) J ?_;exact zhp.nil
     intro a s _ L;obtain ⟨og51,hg_,L⟩:=L.openr 84 rfl;have d52:=Dis.new hg_ lt44;replace L:=L.kk (L':=[(1,(Pi most_)),(2,(Pd.ptr En.SDesc d_)),(5,(Pd.row En.SThing_ref18 s0.w.heap.size 117 og27 out26)),(6,(Pi i10)),(7,(Pd.rep (En.slice (En.int .u8)) r20)),(8,(Pi k28)),(70,(Pd.row En.SThing_ref18 s0.w.heap.size 117 og27 out26)),(71,(Pd.rep (En.slice (En.slice En.SItem)) r38)),(84,(Pd.row (En.int .u8) s0.w.heap.size 5 og51 (e45.2++[e48])))]);refine dp ?_;refine fzl 84 L fun s L=>?_;refine sv (zbj (x:=(r38,e45.2++[e48])) (ps:=[(0,.tmp 71),(1,.tmp 84)]) tyz117 J stt117 (.cons (i:=0) op J (zw (zk _ _ _)) (.cons (i:=1) op J (zi (zk _ _ _) J) .nil)) J J) L fun a s L=>?_;refine sA 1 L fun a s L=>?_;refine zb4 87 L op op Ud.h Tq.h h53 J J J J ka fun a s og54 hg_ L=>?_;refine sA 1 L fun a s L=>?_;refine en' (H33 _ _ ?_);obtain ⟨h55,h⟩:=h;refine rg (sA 3 L fun a s L=>?_);refine en' ?_;exact hKL31 a s ⟨(out26++[(r38,e45.2++[e48])]),(k28+1),og54,L.kk,h⟩
    ·refine wp_skip (H33 _ _ ?_);obtain ⟨h56,h⟩:=h;refine rg (sA 3 L fun a s L=>?_);refine en' ?_;exact hKL31 a s ⟨out26,(k28+1),og27,L.kk,h⟩
   obtain ⟨k59,h⟩:=h;refine lpn (fun k60 a s=>∃(there57:Bool) (m58:Int),Has N0 89 s0 a s [(1,(Pi most_)),(2,(Pd.ptr En.SDesc d_)),(5,(Pd.row En.SThing_ref18 s0.w.heap.size 117 og27 out26)),(6,(Pi i10)),(7,(Pd.rep (En.slice (En.int .u8)) r20)),(8,(Pi k28)),(9,(Pd.rep (En.slice (En.slice En.SItem)) r38)),(10,(Pd.rep En.bool there57)),(11,(Pi m58))]∧zt.l3 out26 r38 (zt.j3 (zt.l2 d_ i10 r20 (zt.j2 (zt.l1 d_ most_ (zt.j1 r_) k12) i10) k30) i10 r20 out26 k28 r38) k60 there57 m58) k59 ⟨false,0,L.kk,h⟩ ?_;rintro k60 a s ⟨there57,m58,L,h⟩ KL61 hKL61;unfold zt.l3 at h;refine wp_seq_k fun K62 H62=>rA 4 L fun a s L=>?_;refine cn L h (fun h=>?_) fun h=>?_
   ·refine wp_skip (H62 _ _ ?_);refine wp_seq_k fun K63 H63=>wp_block ?_;obtain ⟨e64,h65,r66,h67,h⟩:=h;refine rg (sl 11 (pp h65 (pp (fun hc_=>(zrx (h67 hc_))) trivial)) L fun a s L=>?_);refine en' (H63 _ _ ?_);obtain ⟨h68,h⟩:=h;refine rg (sA 3 L fun a s L=>?_);refine en' ?_;exact hKL61 a s ⟨(there57||r66),(m58+1),L.kk,h⟩
   ·refine wp_exit ?_;exact J42 there57 a s (L.kk) h
  ·refine wp_exit ?_;exact J24 out26 og27 a s (L.kk) h
 ·refine wp_exit ?_;exact J7 out8 og9 a s (L.kk) h
theorem zp3 {d_:SDesc} {budget_:Int} {r_:SVerdict} (h:zch d_ budget_ r_):Fn Tryz.prog 42 [(Pd.rep En.SDesc d_),(Pi budget_)] (Rq (Pd.rep En.SVerdict r_)):=by
 unfold zch at h;refine zbi Tryz.func42 J Tryz.ntmps42 (by rfl) (by simp) fun s0 a L=>?_;refine rs (sA 1 L fun a s L=>?_);refine z8 En.SVerdict (z:=(0,[],[],0,0,0,0)) 4 L zps J J J J fun a s g1 hg_ L=>?_;refine es (rA 3 L fun a s L=>?_);obtain ⟨r2,h3,h⟩:=h;refine ra 4 (p1 ((zos h3).frz)) L fun a s L=>?_;refine wp_seq_k fun K4 H4=>rA 1 L fun a s L=>?_;refine wp_block ?_;have J6:∀(v5:SVerdict) (a:Act) (s:St),Has N0 48 s0 a s [(4,(Pd.box En.SVerdict s0.w.heap.size g1 v5)),(5,(Pi (max 0 budget_))),(6,(Pd.rep (En.slice En.SThing_ref18) r2))]→((zch.j1 budget_ r_ r2) v5)→K4 a s.w:=by
  intro v5 a s L h;unfold zch.j1 at h;show K4 a s.w;refine H4 _ _ (wp_seq_k fun K7 H7=>?_);refine rA 4 L fun a s L=>?_;refine cn L h (fun h=>?_) fun h=>?_
  ·refine rs ?_;refine sA 2 L fun a s L=>?_;refine sv (zbj (x:=(1,[],[],0,0,0,(r2.length:Int))) (ps:=[(0,.const (.int .i64 1)),(6,.tmp 44)]) zps J stt58 (.cons (i:=0) op J (zw (zk _ _ _)) (.cons (i:=6) op J (zi (zi (zi (zi (zi (zi (zk _ _ _) J) J) J) J) J) J) .nil)) J J) L fun a s L=>?_;refine sB 4 L fun s L=>?_;refine es ?_;subst h;exact wp_ret (retb J ty58 L J)
  ·refine wp_skip (H7 _ _ ?_);refine rs (sA 1 L fun a s L=>?_);refine sv (zbj (x:=(3,[],[],0,0,0,(max 0 budget_))) (ps:=[(0,.const (.int .i64 3)),(6,.tmp 46)]) zps J stt58 (.cons (i:=0) op J (zw (zk _ _ _)) (.cons (i:=6) op J (zi (zi (zi (zi (zi (zi (zk _ _ _) J) J) J) J) J) J) .nil)) J J) L fun a s L=>?_;refine sB 4 L fun s L=>?_;refine es ?_;subst h;exact wp_ret (retb J ty58 L J)
 obtain ⟨k10,h⟩:=h;refine lpn (fun k11 a s=>∃(v8:SVerdict) (i9:Int),Has N0 48 s0 a s [(2,(Pd.ptr En.SDesc d_)),(4,(Pd.box En.SVerdict s0.w.heap.size g1 v8)),(5,(Pi (max 0 budget_))),(6,(Pd.rep (En.slice En.SThing_ref18) r2)),(7,(Pi i9))]∧zch.l1 d_ budget_ r2 r_ (zch.j1 budget_ r_ r2) k11 v8 i9) k10 ⟨(0,[],[],0,0,0,0),0,L.kk,h⟩ ?_;rintro k11 a s ⟨v8,i9,L,h⟩ KL12 hKL12;unfold zch.l1 at h;refine wp_seq_k fun K13 H13=>?_;obtain ⟨b14,h15,h⟩:=h;refine ra 9 (p1 h15) L fun a s L=>?_;refine cn L h (fun h=>?_) fun h=>?_
 ·refine wp_skip (H13 _ _ ?_);refine wp_seq_k fun K16 H16=>wp_block ?_;obtain ⟨e17,h18,r19,h20,h⟩:=h;refine wp_seq (rdx 7 (pp h18 (p1 (zr1 h20))) L fun a s L=>?_);refine es (cn L h (fun h=>?_) fun h=>?_)
  ·obtain ⟨e21,h22,h23,h⟩:=h;refine rs (sl 7 (p1 h22) L fun a s L=>?_);refine sv (zbj (x:=(2,e21.2,[],0,0,0,i9+1)) (ps:=[(0,.const (.int .i64 2)),(1,.tmp 35),(6,.tmp 37)]) zps J stt58 (.cons (i:=0) op J (zw (zk _ _ _)) (.cons (i:=1) op J (zi (zw (zk _ _ _)) J) (.cons (i:=6) op J (zi (zi (zi (zi (zi (zi (zk _ _ _) J) J) J) J) J) J) .nil))) J J) L fun a s L=>?_;refine sB 4 L fun s L=>?_;refine es ?_;subst h;exact wp_ret (retb J ty58 L J)
  ·refine wp_skip (H16 _ _ ?_);obtain ⟨h24,h⟩:=h;refine rg (sA 3 L fun a s L=>?_);refine en' ?_;exact hKL12 a s ⟨v8,(i9+1),L.kk,h⟩
 ·refine wp_exit ?_;exact J6 v8 a s (L.kk) h
theorem law18_WordTells_ok {d_:SDesc} {budget_:Int} {w_:(List Int)} {r_:Bool} (h:zg9 d_ budget_ w_ r_):Fn Tryz.prog 9 [(Pd.rep En.SDesc d_),(Pi budget_),(Pd.rep (En.slice (En.int .u8)) w_)] (Rq (Pd.rep En.bool r_)):=by
 unfold zg9 at h;refine zbi Tryz.func9 J Tryz.ntmps9 (by rfl) (by simp) fun s0 a L=>?_;refine rA 2 L fun a s L=>?_;refine wp_seq_k fun K1 H1=>?_;obtain ⟨r2,h3,r4,h5,b6,h7,r8,h9,h⟩:=h;refine ra 23 (pp (zk2 h3) (pp (fun hc_=>(law18_few_ok (h5 hc_))) (pp h7 (pp (fun hc_=>(zqe (h9 hc_))) trivial)))) L fun a s L=>?_;refine cn L h (fun h=>?_) fun h=>?_
 ·obtain ⟨r10,h11,h⟩:=h;refine ra 2 (p1 (zk2 h11)) L fun a s L=>?_;subst h;exact wp_ret (zdm J L J)
 ·refine wp_skip (H1 _ _ ?_);obtain ⟨r12,h13,r14,h15,r16,h17,r18,h19,r20,h21,h⟩:=h;refine wp_seq (rdx 17 (pp (zgr h13) (pp (zp3 h15) (pp (zrw h17) (pp (fun hc_=>(zmd (h19 hc_))) (pp (fun hc_=>(zsd (h21 hc_))) trivial))))) L fun a s L=>?_);refine sA 1 L fun a s L=>?_;refine es ?_;subst h;exact wp_ret (zdm J L J)
structure Sch (T:Type) where
 start:T
 ways:T→List (Int × T)
 hit:T→Bool
abbrev Qb (T:Type):=T × Int × Int × List Int
section
variable {T : Type} [DecidableEq T]
def hasQ (acc:List (Qb T)) (x:T):Bool:=acc.any fun q=>decide (q.1=x)
def stB (i:Nat) (w:List Int) (acc:List (Qb T)) (e:Int × T):List (Qb T):=if hasQ acc e.2=true then acc else acc++[(e.2,(i:Int),e.1,w++[e.1])]
def rdB (S:Sch T) (i:Nat) (q:Qb T) (acc:List (Qb T)):List (Qb T):=(S.ways q.1).foldl (stB i q.2.2.2) acc
def zdc (S:Sch T):Nat→List (Qb T)
 | 0=>[(S.start, -1,0,[])]
 | i+1=>match (zdc S i)[i]? with
  | some q=>rdB S i q (zdc S i)
  | none=>zdc S i
theorem hasQ_iff {acc:List (Qb T)} {x:T}:hasQ acc x=true↔∃q∈acc,q.1=x:=by simp [hasQ]
theorem hasQ_app {acc:List (Qb T)} {q:Qb T} {x:T}:hasQ (acc++[q]) x=(hasQ acc x||decide (q.1=x)):=by simp [hasQ]
theorem zft {α:Type} {a b:List α} (h:a <+: b) {j:Nat} {q:α} (hq:a[j]?=some q):b[j]?=some q:=by
 obtain ⟨r,rfl⟩:=h;rw [List.getElem?_append_left (List.getElem?_eq_some_iff.1 hq).1];exact hq
theorem stB_pre (i:Nat) (w:List Int) (acc:List (Qb T)) (e:Int × T):acc <+: stB i w acc e:=by
 unfold stB;split
 ·exact List.prefix_refl _
 ·exact List.prefix_append _ _
theorem foldB_pre (i:Nat) (w:List Int) (es:List (Int × T)):∀acc:List (Qb T),acc <+: es.foldl (stB i w) acc:=by
 induction es with
 | nil=>intro acc;exact List.prefix_refl _
 | cons e es ih=>intro acc;exact (stB_pre i w acc e).trans (ih _)
theorem zj2 {S:Sch T} {i:Nat} {q:Qb T} (h:(zdc S i)[i]?=some q):zdc S (i+1)=rdB S i q (zdc S i):=by
 show (match (zdc S i)[i]? with | some q=>rdB S i q (zdc S i) | none=>zdc S i)=_;rw [h]
theorem ztr {S:Sch T} {i:Nat} (h:(zdc S i)[i]?=none):zdc S (i+1)=zdc S i:=by
 show (match (zdc S i)[i]? with | some q=>rdB S i q (zdc S i) | none=>zdc S i)=_;rw [h]
theorem zpo (S:Sch T) (i:Nat):zdc S i <+: zdc S (i+1):=by
 cases h:(zdc S i)[i]? with
 | none=>rw [ztr h];exact List.prefix_refl _
 | some q=>rw [zj2 h];exact foldB_pre _ _ _ _
theorem zkt (S:Sch T) {i j:Nat} (h:i≤j):zdc S i <+: zdc S j:=by
 obtain ⟨d,rfl⟩:∃d,j=i+d:=⟨j-i,by omega⟩;clear h
 induction d with
 | zero=>exact List.prefix_refl _
 | succ d ih=>exact ih.trans (zpo S (i+d))
theorem zj1 {S:Sch T} {i:Nat} (h:(zdc S i)[i]?=none):∀d,zdc S (i+d)=zdc S i
 | 0=>rfl
 | d+1=>by
  have ih:=zj1 h d;have:(zdc S (i+d))[i+d]?=none:=by
   rw [ih];rw [List.getElem?_eq_none_iff] at h ⊢;omega
  rw [← Nat.add_assoc,ztr this,ih]
structure GoodB (S:Sch T) (acc:List (Qb T)):Prop where
 nd:(acc.map (·.1)).Nodup
 par:∀j q,acc[j]?=some q→(j=0∧q=(S.start, -1,0,[]))∨∃p q',q.2.1=((p:Nat):Int)∧p<j∧acc[p]?=some q'∧q.2.2.2=q'.2.2.2++[q.2.2.1]∧(q.2.2.1,q.1)∈S.ways q'.1
theorem stB_good {S:Sch T} {i:Nat} {q0:Qb T} {acc:List (Qb T)} {e:Int × T} (h:GoodB S acc) (hi:acc[i]?=some q0) (he:e∈S.ways q0.1):GoodB S (stB i q0.2.2.2 acc e):=by
 unfold stB;split
 ·exact h
 ·rename_i hno
  have hni:e.2 ∉ acc.map (·.1):=fun hm=>by
   obtain ⟨q,hq,he⟩:=List.mem_map.1 hm;exact hno (hasQ_iff.2 ⟨q,hq,he⟩)
  have hil:i<acc.length:=(List.getElem?_eq_some_iff.1 hi).1;refine ⟨?_, ?_⟩
  ·rw [List.map_append,List.nodup_append];exact ⟨h.nd,by simp,fun a ha b hb e=>by simp at hb;subst hb;subst e;exact hni ha⟩
  ·intro j q hj
   by_cases hjl:j<acc.length
   ·rw [List.getElem?_append_left hjl] at hj;rcases h.par j q hj with h1 | ⟨p,q',h1,h2,h3,h4⟩
    ·exact .inl h1
    ·exact .inr ⟨p,q',h1,h2,zft (List.prefix_append _ _) h3,h4⟩
   ·have hjl':=(List.getElem?_eq_some_iff.1 hj).1;simp at hjl';have:j=acc.length:=by omega
    subst this;rw [List.getElem?_append_right (Nat.le_refl _)] at hj;simp at hj;subst hj;exact .inr ⟨i,q0,rfl,hil,zft (List.prefix_append _ _) hi,rfl,he⟩
theorem foldB_good {S:Sch T} {i:Nat} {q0:Qb T} {es:List (Int × T)} (hes:∀e∈es,e∈S.ways q0.1):∀acc:List (Qb T),GoodB S acc→acc[i]?=some q0→GoodB S (es.foldl (stB i q0.2.2.2) acc):=by
 induction es with
 | nil=>intro acc h _;exact h
 | cons e es ih=>
  intro acc h hi;exact ih (fun e he=>hes e (by simp [he])) _ (stB_good h hi (hes e (by simp))) (zft (stB_pre _ _ _ _) hi)
theorem zj3 (S:Sch T):∀i,GoodB S (zdc S i)
 | 0=>⟨by simp [zdc],fun j q hj=>by
   cases j with
   | zero=>simp [zdc] at hj;subst hj;exact .inl ⟨rfl,rfl⟩
   | succ j=>simp [zdc] at hj⟩
 | i+1=>by
  have ih:=zj3 S i;cases hi:(zdc S i)[i]? with
  | none=>rw [ztr hi];exact ih
  | some q=>rw [zj2 hi];exact foldB_good (fun e he=>he) _ ih hi
omit [DecidableEq T] in
theorem GoodB.wlen {S:Sch T} {acc:List (Qb T)} (h:GoodB S acc):∀(j:Nat) (q:Qb T),acc[j]?=some q→q.2.2.2.length≤j:=by
 intro j
 induction j using Nat.strongRecOn with
 | ind j ih=>
  intro q hq
  rcases h.par j q hq with ⟨_,rfl⟩ | ⟨p,q',_,h2,h3,h4,_⟩
  ·simp
  ·have:=ih p h2 q' h3
   rw [h4];simp;omega
theorem stB_len (i:Nat) (w:List Int) (acc:List (Qb T)) (e:Int × T):(stB i w acc e).length≤acc.length+1:=by
 unfold stB;split <;> simp
theorem zjw (i:Nat) (w:List Int):∀(es:List (Int × T)) (acc:List (Qb T)),(es.foldl (stB i w) acc).length≤acc.length+es.length
 | [],acc=>Nat.le_refl _
 | e::es,acc=>by
  have h1:=zjw i w es (stB i w acc e);have h2:=stB_len i w acc e;rw [List.foldl_cons,List.length_cons];omega
def verdB (S:Sch T) (b:Int):Nat→Nat→Int × List Int × Int × Option T
 | 0,i=>(1,[],((zdc S i).length:Int),none)
 | f+1,i=>match (zdc S i)[i]? with
  | none=>(1,[],((zdc S i).length:Int),none)
  | some q=>if b≤(i:Int) then (3,[],max b 0,none) else if S.hit q.1=true then (2,q.2.2.2,(i:Int)+1,some q.1) else verdB S b f (i+1)
def srchB (S:Sch T) (b:Int):Int × List Int × Int × Option T:=verdB S b (b.toNat+1) 0
inductive OutB (S:Sch T) (b:Int):Int × List Int × Int × Option T→Prop
 | yes (i:Nat) (hb:(i:Int)≤b∨i=0∧b≤0) (h:(zdc S i)[i]?=none) (hno:∀j q,j<i→(zdc S i)[j]?=some q→S.hit q.1=false):OutB S b (1,[],((zdc S i).length:Int),none)
 | no (i:Nat) (q:Qb T) (hb:(i:Int)<b) (h:(zdc S i)[i]?=some q) (hh:S.hit q.1=true) (hno:∀j q,j<i→(zdc S i)[j]?=some q→S.hit q.1=false):OutB S b (2,q.2.2.2,(i:Int)+1,some q.1)
 | limit (hl:∃q,(zdc S b.toNat)[b.toNat]?=some q) (hno:∀j q,j<b.toNat→(zdc S b.toNat)[j]?=some q→S.hit q.1=false):OutB S b (3,[],max b 0,none)
theorem verdB_out (S:Sch T) (b:Int):∀(f i:Nat),f+i=b.toNat+1→i≤b.toNat→(∀j q,j<i→(zdc S i)[j]?=some q→S.hit q.1=false)→OutB S b (verdB S b f i)
 | 0,i,h1,h2,_=>by omega
 | f+1,i,h1,h2,hno=>by
  unfold verdB;cases hq:(zdc S i)[i]? with
  | none=>exact .yes i (by omega) hq hno
  | some q=>
   simp only
   by_cases hb:b≤(i:Int)
   ·rw [if_pos hb];have:i=b.toNat:=by omega
    subst this;exact .limit ⟨q,hq⟩ hno
   ·rw [if_neg hb]
    by_cases hh:S.hit q.1=true
    ·rw [if_pos hh];exact .no i q (by omega) hq hh hno
    ·rw [if_neg hh];refine verdB_out S b f (i+1) (by omega) (by omega) fun j q' hj hq'=>?_
     by_cases hji:j=i
     ·subst hji;rw [zft (zpo S j) hq] at hq';cases hq';simpa using hh
     ·have hlt:i<(zdc S i).length:=(List.getElem?_eq_some_iff.1 hq).1;obtain ⟨x,hx⟩:∃x,(zdc S i)[j]?=some x:=⟨_,List.getElem?_eq_getElem (show j<(zdc S i).length by omega)⟩;rw [zft (zpo S i) hx] at hq';cases hq';exact hno j _ (by omega) hx
theorem srchB_out (S:Sch T) (b:Int):OutB S b (srchB S b):=verdB_out S b _ 0 (by omega) (by omega) fun j q h=>by omega
inductive Rn (step:T→Int→T→Prop) (s0:T):List Int→T→Prop
 | nil:Rn step s0 [] s0
 | snoc {w:List Int} {x:T} {c:Int} {y:T} (h:Rn step s0 w x) (hs:step x c y):Rn step s0 (w++[c]) y
theorem accB_rn {S:Sch T} {step:T→Int→T→Prop} (hs:∀x c y,(c,y)∈S.ways x→step x c y) (i:Nat):∀(j:Nat) (q:Qb T),(zdc S i)[j]?=some q→Rn step S.start q.2.2.2 q.1:=by
 intro j
 induction j using Nat.strongRecOn with
 | ind j ih=>
  intro q hq;rcases (zj3 S i).par j q hq with ⟨_,rfl⟩ | ⟨p,q',_,h2,h3,h4,h5⟩
  ·exact .nil
  ·rw [h4];exact .snoc (ih p h2 q' h3) (hs _ _ _ h5)
theorem stB_mem {i:Nat} {w:List Int} {acc:List (Qb T)} {e:Int × T}:∀q∈stB i w acc e,q∈acc∨q=(e.2,(i:Int),e.1,w++[e.1]):=fun q hq=>by
 unfold stB at hq;split at hq
 ·exact .inl hq
 ·exact (List.mem_append.1 hq).imp id fun h=>List.mem_singleton.1 h
theorem zpf {i:Nat} {w:List Int}:∀(es:List (Int × T)) (acc:List (Qb T)),∀q∈es.foldl (stB i w) acc,q∈acc∨∃e∈es,q=(e.2,(i:Int),e.1,w++[e.1])
 | [],acc,q,hq=>.inl hq
 | e::es,acc,q,hq=>by
  rcases zpf es _ q hq with h | ⟨e',h1,h2⟩
  ·rcases stB_mem q h with h | h
   ·exact .inl h
   ·exact .inr ⟨e,by simp,h⟩
  ·exact .inr ⟨e',by simp [h1],h2⟩
end
end Go.Proofs.YtahgmdbioafmbaaGreatDoor.V
namespace Go.Proofs.YtahgmdbioafmbaaGreatDoor.V
open Go
set_option linter.unusedVariables false
section
variable {α : Type}
theorem zja {A B:List α} {x:α} {i:Int} (h:i=(A.length:Int)):at? (A++x::B) i=some x:=by
 subst h;rw [zbw];simp
theorem ziq {A B:List α} {x y:α} {i:Int} (h:i=(A.length:Int)):(A++x::B).set i.toNat y=A++y::B:=by
 subst h;rw [Int.toNat_natCast]
 induction A with
 | nil=>rfl
 | cons a A ih=>simp only [List.length_cons,List.cons_append,List.set_cons_succ,ih]
def SEq (key:α→Int) (l l':List α):Prop:=∀c,l.filter (fun x=>key x==c)=l'.filter (fun x=>key x==c)
theorem SEq.refl (key:α→Int) (l:List α):SEq key l l:=fun _=>rfl
theorem SEq.trans {key:α→Int} {a b c:List α} (h:SEq key a b) (k:SEq key b c):SEq key a c:=fun x=>(h x).trans (k x)
theorem SEq.symm {key:α→Int} {a b:List α} (h:SEq key a b):SEq key b a:=fun x=>(h x).symm
theorem SEq.app {key:α→Int} {a b c d:List α} (h:SEq key a b) (k:SEq key c d):SEq key (a++c) (b++d):=fun x=>by rw [List.filter_append,List.filter_append,h x,k x]
theorem SEq.length {key:α→Int} {a b:List α} (h:SEq key a b):a.length=b.length:=by
 have hp:a.Perm b:=by
  classical
  refine List.perm_iff_count.2 fun x=>?_;have h1:∀l:List α,l.count x=(l.filter (fun y=>key y==key x)).count x:=fun l=>by
   rw [List.count_filter];simp
  rw [h1 a,h1 b,h (key x)]
 exact hp.length_eq
theorem SEq.perm {key:α→Int} {a b:List α} (h:SEq key a b):a.Perm b:=by
 classical
 refine List.perm_iff_count.2 fun x=>?_;have h1:∀l:List α,l.count x=(l.filter (fun y=>key y==key x)).count x:=fun l=>by
  rw [List.count_filter];simp
 rw [h1 a,h1 b,h (key x)]
theorem zka {key:α→Int} {X Y:List α} (h:∀x∈X,∀y∈Y,key x≠key y):SEq key (X++Y) (Y++X):=fun c=>by
 rw [List.filter_append,List.filter_append]
 by_cases hx:X.filter (fun x=>key x==c)=[]
 ·rw [hx];simp
 ·have hy:Y.filter (fun x=>key x==c)=[]:=by
   rw [List.filter_eq_nil_iff];intro y hy hyc;obtain ⟨x,hxm⟩:=List.exists_mem_of_ne_nil _ hx;rw [List.mem_filter] at hxm;exact h x hxm.1 y hy (by rw [eq_of_beq hxm.2,eq_of_beq hyc])
  rw [hy];simp
def Srt (key:α→Int) (l:List α):Prop:=l.Pairwise fun x y=>key x≤key y
theorem Srt.app {key:α→Int} {a b:List α}:Srt key (a++b)↔Srt key a∧Srt key b∧∀x∈a,∀y∈b,key x≤key y:=List.pairwise_append
theorem Srt.cons {key:α→Int} {x:α} {b:List α}:Srt key (x::b)↔(∀y∈b,key x≤key y)∧Srt key b:=List.pairwise_cons
theorem srtc_uniq {key:α→Int}:∀{a b:List α},Srt key a→Srt key b→SEq key a b→a=b
 | [],b,_,_,h=>(List.eq_nil_of_length_eq_zero h.length.symm).symm
 | x::a,[],_,_,h=>absurd h.length (by simp)
 | x::a,y::b,ha,hb,h=>by
  obtain ⟨ha1,ha2⟩:=Srt.cons.1 ha;obtain ⟨hb1,hb2⟩:=Srt.cons.1 hb;have hp:=h.perm;have hxy:key x=key y:=by
   have h1:x∈y::b:=hp.mem_iff.1 (by simp);have h2:y∈x::a:=hp.mem_iff.2 (by simp);have e1:key y≤key x:=by
    rcases List.mem_cons.1 h1 with rfl | h1
    ·exact Int.le_refl _
    ·exact hb1 x h1
   have e2:key x≤key y:=by
    rcases List.mem_cons.1 h2 with rfl | h2
    ·exact Int.le_refl _
    ·exact ha1 y h2
   omega
  have h3:=h (key x);rw [List.filter_cons_of_pos (by simp),List.filter_cons_of_pos (by simp [hxy])] at h3;have e:=List.cons.inj h3;obtain ⟨rfl,_⟩:=e;refine congrArg _ (srtc_uniq ha2 hb2 fun c=>?_);have h4:=h c
  by_cases hc:key x=c
  ·rw [List.filter_cons_of_pos (by simp [hc]),List.filter_cons_of_pos (by simp [hc])] at h4;exact (List.cons.inj h4).2
  ·rw [List.filter_cons_of_neg (by simp [hc]),List.filter_cons_of_neg (by simp [hc])] at h4;exact h4
def srt (key:α→Int) (l:List α):List α:=l.mergeSort fun x y=>decide (key x≤key y)
theorem zjg (key:α→Int) (l:List α):Srt key (srt key l):=by
 have:=List.pairwise_mergeSort (le:=fun x y=>decide (key x≤key y)) (fun a b c h1 h2=>by simp at *;omega) (fun a b=>by simp;omega) l;exact this.imp fun h=>by simpa using h
theorem zg5 (key:α→Int) (l:List α):SEq key l (srt key l):=fun c=>by
 have hp:(srt key l).Perm l:=List.mergeSort_perm l _;have hsub:(l.filter fun x=>key x==c).Sublist (srt key l):=by
  refine List.sublist_mergeSort (le:=fun x y=>decide (key x≤key y)) (fun a b c h1 h2=>by simp at *;omega) (fun a b=>by simp;omega) ?_ List.filter_sublist;refine List.Pairwise.imp_of_mem (R:=fun _ _=>True) ?_ (List.pairwise_of_forall fun _ _=>trivial);intro a b ha hb _;have h1:=(List.mem_filter.1 ha).2;have h2:=(List.mem_filter.1 hb).2;simp at h1 h2;simp;omega
 have h2:=hsub.filter (fun x=>key x==c);rw [List.filter_filter] at h2;simp only [Bool.and_self] at h2;exact h2.eq_of_length (hp.filter _).length_eq.symm
theorem zi4 {key:α→Int} {l q:List α} (hq:Srt key q) (h:SEq key l q):q=srt key l:=srtc_uniq hq (zjg key l) (h.symm.trans (zg5 key l))
theorem zhr (key:α→Int) (l:List α):(srt key l).length=l.length:=(zg5 key l).length.symm
theorem zf4 (l:List α) {n:Nat} (h:n≤l.length):∃A B,l=A++B∧A.length=n:=⟨l.take n,l.drop n,(List.take_append_drop n l).symm,by simp;omega⟩
theorem snoc_of {l:List α} (h:l≠[]):∃A x,l=A++[x]:=⟨l.dropLast,l.getLast h,(List.dropLast_concat_getLast h).symm⟩
end
theorem zgn {i j:Int} (h0:0≤i+j) (h1:i+j<9223372036854775808):IntKind.wrap .i64 (zqx (IntKind.wrap .u64 (i+j)) 1)=(i+j) / 2:=by
 rw [znu,show (i+j) % 18446744073709551616=i+j by omega];have:zqx (i+j) 1=(i+j) / 2:=by
  unfold zqx;simp
 rw [this];simp [IntKind.wrap,IntKind.signed,IntKind.bits];omega
theorem bsearch {P:Nat→Int→Int→Prop} (pr:Nat→Bool) (lo hi:Nat) (hmono:∀c d,lo≤c→c≤d→d<hi→pr d=true→pr c=true)
  (hstep:∀k (i j:Nat),lo≤i→i<j→j≤hi→(pr ((i+j) / 2)=true→P k (((i+j) / 2+1:Nat):Int) (j:Int)→P (k+1) (i:Int) (j:Int))∧(pr ((i+j) / 2)=false→P k (i:Int) (((i+j) / 2:Nat):Int)→P (k+1) (i:Int) (j:Int)))
  (hexit:∀k (i:Nat),lo≤i→i≤hi→(∀c,lo≤c→c<i→pr c=true)→(∀c,i≤c→c<hi→pr c=false)→P (k+1) (i:Int) (i:Int)) (hle:lo≤hi):∃k,P k (lo:Int) (hi:Int):=by
 have key:∀(f i j:Nat),j-i≤f→lo≤i→i≤j→j≤hi→(∀c,lo≤c→c<i→pr c=true)→(∀c,j≤c→c<hi→pr c=false)→∃k,P k (i:Int) (j:Int):=by
  intro f
  induction f with
  | zero=>
   intro i j hf h1 h2 h3 h4 h5;have:i=j:=by omega
   subst this;exact ⟨1,hexit 0 i h1 h3 h4 h5⟩
  | succ f ih=>
   intro i j hf h1 h2 h3 h4 h5
   by_cases hij:i=j
   ·subst hij;exact ⟨1,hexit 0 i h1 h3 h4 h5⟩
   ·have hlt:i<j:=by omega
    cases hp:pr ((i+j) / 2)
    ·obtain ⟨k,hk⟩:=ih i ((i+j) / 2) (by omega) h1 (by omega) (by omega) h4 (fun c hc1 hc2=>by
      cases hpc:pr c
      ·rfl
      ·have:=hmono ((i+j) / 2) c (by omega) hc1 hc2 hpc;rw [this] at hp;cases hp)
     exact ⟨k+1,(hstep k i j h1 hlt h3).2 hp hk⟩
    ·obtain ⟨k,hk⟩:=ih ((i+j) / 2+1) j (by omega) (by omega) (by omega) h3 (fun c hc1 hc2=>hmono c ((i+j) / 2) hc1 (by omega) (by omega) hp) h5;exact ⟨k+1,(hstep k i j h1 hlt h3).1 hp hk⟩
 exact key (hi-lo) lo hi (Nat.le_refl _) (Nat.le_refl _) hle (Nat.le_refl _) (fun c h1 h2=>by omega) (fun c h1 h2=>by omega)
end Go.Proofs.YtahgmdbioafmbaaGreatDoor.V
namespace Go.Proofs.YtahgmdbioafmbaaGreatDoor.V
open Go
set_option linter.unusedVariables false
def lk0 (p:Cl):Int:=p.least.1
def zhm (a p:Cl):List Cl:=[p &&& a,p &&& ~~~ a].filter fun q=>decide (0<q.count)
def zol (ps:List Cl) (a:Cl):List Cl:=srt lk0 (ps.flatMap (zhm a))
def zhf (l:List Cl):List Cl:=l.foldl zol [~~~ (0#256)]
def zon (l:List Cl):List Int:=(zhf l).map lk0
def zgl (l:List Cl) (c d:Nat):Bool:=l.all fun a=>a.has c==a.has d
def part (l:List Cl) (c:Nat):Cl:=Cl.of (zgl l c)
def zgm (l:List Cl):List Nat:=(List.range 256).filter fun c=>(List.range c).all fun d=>!zgl l d c
def parts (l:List Cl):List Cl:=(zgm l).map (part l)
theorem zpa (l:List Cl) (c:Nat):zgl l c c=true:=by simp [zgl]
theorem zly {l:List Cl} {c d:Nat} (h:zgl l c d=true):zgl l d c=true:=by
 unfold zgl at *;rw [List.all_eq_true] at *;intro a ha;have:=h a ha;rw [beq_iff_eq] at *;exact this.symm
theorem zih {l:List Cl} {c d e:Nat} (h:zgl l c d=true) (k:zgl l d e=true):zgl l c e=true:=by
 unfold zgl at *;rw [List.all_eq_true] at *;intro a ha;have h1:=h a ha;have h2:=k a ha;rw [beq_iff_eq] at *;exact h1.trans h2
theorem ze4 {l:List Cl} {c d:Nat} (h:d<256):(part l c).has d=zgl l c d:=Cl.of_has _ h
theorem zgc {l:List Cl} {c:Nat}:c∈zgm l↔c<256∧∀d,d<c→zgl l d c=false:=by
 simp [zgm]
theorem part_eq {l:List Cl} {c d:Nat} (h:zgl l c d=true):part l c=part l d:=by
 apply Cl.ext;intro e he;rw [ze4 he,ze4 he];cases h1:zgl l d e
 ·cases h2:zgl l c e
  ·rfl
  ·rw [zih (zly h) h2] at h1;cases h1
 ·exact zih h h1
theorem zs1 {p:Cl} (h:0<p.count):∃n:Nat,n<256∧p.least=((n:Int),true)∧p.has n=true∧∀m,m<n→p.has m=false:=by
 cases hl:p.least.2
 ·have h0:=least_none hl;have:p.count=0:=by
   unfold Cl.count;rw [List.countP_eq_zero];intro m hm;rw [h0 m (by simpa using hm)];simp
  omega
 ·obtain ⟨n,hn⟩:∃n:Nat,p.least=((n:Int),true):=by
   unfold Cl.least at hl ⊢;split
   ·exact ⟨_,rfl⟩
   ·rename_i hn;rw [hn] at hl;simp at hl
  obtain ⟨h1,h2,h3⟩:=least_some hn;exact ⟨n,h1,hn,h2,h3⟩
theorem count_pos {p:Cl} {n:Nat} (hn:n<256) (h:p.has n=true):0<p.count:=by
 unfold Cl.count;rw [List.countP_pos_iff];exact ⟨n,by simpa using hn,h⟩
theorem head_of {l:List Cl} {c:Nat} (hc:c<256):∃h,h∈zgm l∧h≤c∧zgl l h c=true:=by
 obtain ⟨h,⟨h1,h2⟩,h3⟩:=exists_least (p:=fun d=>d≤c∧zgl l d c=true) ⟨c,Nat.le_refl _,zpa l c⟩;refine ⟨h,zgc.2 ⟨by omega,fun d hd=>?_⟩,h1,h2⟩;cases hl:zgl l d h
 ·rfl
 ·have:=h3 d ⟨by omega,zih hl h2⟩;omega
theorem least_part {l:List Cl} {h:Nat} (hh:h∈zgm l):(part l h).least=((h:Int),true):=by
 obtain ⟨h1,h2⟩:=zgc.1 hh;refine least_of h1 (by rw [ze4 h1];exact zpa l h) fun m hm=>?_;rw [ze4 (by omega)];cases hl:zgl l h m
 ·rfl
 ·have:=h2 m hm;rw [zly hl] at this;cases this
theorem lk_part {l:List Cl} {h:Nat} (hh:h∈zgm l):lk0 (part l h)=(h:Int):=by rw [lk0,least_part hh]
theorem znc (l:List Cl):(zgm l).Pairwise (· < ·):=(List.pairwise_lt_range).filter _
theorem parts_lk (l:List Cl):(parts l).map lk0=(zgm l).map (fun n:Nat=>(n:Int)):=by
 unfold parts;rw [List.map_map];exact List.map_congr_left fun h hh=>lk_part hh
theorem parts_srt (l:List Cl):Srt lk0 (parts l):=by
 have h1:(zgm l).Pairwise fun a b=>lk0 (part l a)≤lk0 (part l b):=by
  refine (List.pairwise_iff_getElem.2 fun i j hi hj hij=>?_);rw [lk_part (List.getElem_mem hi),lk_part (List.getElem_mem hj)];have:=List.pairwise_iff_getElem.1 (znc l) i j hi hj hij;omega
 exact List.pairwise_map.2 h1
theorem seq_of_mem {α:Type} {key:α→Int} {X Y:List α} (hX:(X.map key).Nodup) (hY:(Y.map key).Nodup) (h:∀x,x∈X↔x∈Y):SEq key X Y:=fun c=>by
 have one:∀{Z:List α},(Z.map key).Nodup→∀x∈Z,key x=c→Z.filter (fun z=>key z==c)=[x]:=by
  intro Z
  induction Z with
  | nil=>intro _ x hx;cases hx
  | cons z Z ih=>
   intro hn x hx hk;rw [List.map_cons,List.nodup_cons] at hn;rcases List.mem_cons.1 hx with rfl | hx
   ·rw [List.filter_cons_of_pos (by simp [hk])]
    congr 1
    rw [List.filter_eq_nil_iff];intro y hy hyc;exact hn.1 (List.mem_map.2 ⟨y,hy,by rw [hk];simpa using hyc⟩)
   ·rw [List.filter_cons_of_neg,ih hn.2 x hx hk];intro hz;exact hn.1 (List.mem_map.2 ⟨x,hx,by rw [hk];simpa using (eq_of_beq hz).symm⟩)
 by_cases hex:∃x,x∈X∧key x=c
 ·obtain ⟨x,hx,hk⟩:=hex;rw [one hX x hx hk,one hY x ((h x).1 hx) hk]
 ·have e1:X.filter (fun z=>key z==c)=[]:=by
   rw [List.filter_eq_nil_iff];intro y hy hyc;exact hex ⟨y,hy,by simpa using hyc⟩
  have e2:Y.filter (fun z=>key z==c)=[]:=by
   rw [List.filter_eq_nil_iff];intro y hy hyc;exact hex ⟨y,(h y).2 hy,by simpa using hyc⟩
  rw [e1,e2]
def Disj (p q:Cl):Prop:=∀n,n<256→p.has n=true→q.has n=false
theorem lk_ne {p q:Cl} (hp:0<p.count) (hq:0<q.count) (h:Disj p q):lk0 p≠lk0 q:=by
 obtain ⟨n,n1,n2,n3,n4⟩:=zs1 hp;obtain ⟨m,m1,m2,m3,m4⟩:=zs1 hq;unfold lk0;rw [n2,m2];intro he;have:n=m:=by simp at he;omega
 subst this;rw [h n n1 n3] at m3;cases m3
theorem nodup_lk {X:List Cl} (hd:X.Pairwise Disj) (hc:∀x∈X,0<x.count):(X.map lk0).Nodup:=by
 refine List.pairwise_map.2 ?_;refine hd.imp_of_mem fun {a b} ha hb h=>lk_ne (hc a ha) (hc b hb) h
theorem zig {a p x:Cl}:x∈zhm a p↔(x=p &&& a∨x=p &&& ~~~ a)∧0<x.count:=by
 simp [zhm]
theorem zo0 {a p x:Cl} (h:x∈zhm a p) {n:Nat} (hx:x.has n=true):p.has n=true:=by
 rcases (zig.1 h).1 with rfl | rfl <;> rw [zle] at hx <;> simp at hx <;> exact hx.1
theorem pieces_disj (a p:Cl):(zhm a p).Pairwise Disj:=by
 unfold zhm;refine List.Pairwise.filter _ ?_;simp only [List.pairwise_cons,List.mem_singleton,forall_eq,List.not_mem_nil,false_implies,implies_true,List.Pairwise.nil,and_true];intro n hn h;rw [zle] at h ⊢;rw [zpe hn];simp at h ⊢;simp [h.2]
theorem zq2 (l:List Cl):(parts l).Pairwise Disj:=by
 unfold parts;refine List.pairwise_map.2 ?_;refine List.pairwise_iff_getElem.2 fun i j hi hj hij n hn h=>?_;have hlt:=List.pairwise_iff_getElem.1 (znc l) i j hi hj hij;obtain ⟨_,h2⟩:=zgc.1 (List.getElem_mem hj);rw [ze4 hn] at h ⊢;cases h3:zgl l (zgm l)[j] n
 ·rfl
 ·have:=h2 _ hlt;rw [zih h (zly h3)] at this;cases this
theorem parts_pos {l:List Cl} {p:Cl} (h:p∈parts l):0<p.count:=by
 obtain ⟨c,hc,rfl⟩:=List.mem_map.1 h;have h1:=(zgc.1 hc).1;exact count_pos h1 (by rw [ze4 h1];exact zpa l c)
theorem flat_disj {ps:List Cl} (h:ps.Pairwise Disj) (a:Cl):(ps.flatMap (zhm a)).Pairwise Disj:=by
 rw [List.pairwise_flatMap];refine ⟨fun p _=>pieces_disj a p,h.imp fun {p q} hpq x hx y hy n hn hxn=>?_⟩;cases hy':y.has n
 ·rfl
 ·have:=hpq n hn (zo0 hx hxn);rw [zo0 hy hy'] at this;cases this
theorem like_snoc (l:List Cl) (a:Cl) (c d:Nat):zgl (l++[a]) c d=(zgl l c d&&(a.has c==a.has d)):=by simp [zgl]
theorem mem_split (l:List Cl) (a x:Cl):x∈(parts l).flatMap (zhm a)↔x∈parts (l++[a]):=by
 have key:∀h h':Nat,zgl l h h'=true→h' < 256→∀x:Cl,(a.has h'=true∧x=part l h &&& a∨a.has h'=false∧x=part l h &&& ~~~ a)→x=part (l++[a]) h':=by
  intro h h' hh h1 x hx;apply Cl.ext;intro d hd;rw [ze4 hd,like_snoc];have e:zgl l h' d=zgl l h d:=by
   have:=congrArg (fun p:Cl=>p.has d) (part_eq hh);simp only [ze4 hd] at this;exact this.symm
  rw [e];rcases hx with ⟨h2,rfl⟩ | ⟨h2,rfl⟩
  ·rw [zle,ze4 hd,h2];cases a.has d <;> simp
  ·rw [zle,zpe hd,ze4 hd,h2];cases a.has d <;> simp
 constructor
 ·intro hx;obtain ⟨p,hp,hxp⟩:=List.mem_flatMap.1 hx;obtain ⟨h,hh,rfl⟩:=List.mem_map.1 hp;obtain ⟨hx1,hx2⟩:=zig.1 hxp;obtain ⟨n,n1,n2,n3,n4⟩:=zs1 hx2;have hn:=zo0 hxp n3;rw [ze4 n1] at hn;have hxe:x=part (l++[a]) n:=key h n hn n1 x (by
   rcases hx1 with rfl | rfl
   ·rw [zle] at n3;simp at n3;exact .inl ⟨n3.2,rfl⟩
   ·rw [zle,zpe n1] at n3;simp at n3;exact .inr ⟨n3.2,rfl⟩)
  refine List.mem_map.2 ⟨n,zgc.2 ⟨n1,fun d hd=>?_⟩,hxe.symm⟩;cases hl:zgl (l++[a]) d n
  ·rfl
  ·have:=n4 d hd;rw [hxe,ze4 (by omega),zly hl] at this;cases this
 ·intro hx;obtain ⟨n,hn,rfl⟩:=List.mem_map.1 hx;have n1:=(zgc.1 hn).1;obtain ⟨h,hh,_,h3⟩:=head_of (l:=l) n1;have hpos:=parts_pos hx;cases ha:a.has n
  ·have e:=key h n h3 n1 _ (.inr ⟨ha,rfl⟩);exact List.mem_flatMap.2 ⟨_,List.mem_map.2 ⟨h,hh,rfl⟩,zig.2 ⟨.inr e.symm,hpos⟩⟩
  ·have e:=key h n h3 n1 _ (.inl ⟨ha,rfl⟩);exact List.mem_flatMap.2 ⟨_,List.mem_map.2 ⟨h,hh,rfl⟩,zig.2 ⟨.inl e.symm,hpos⟩⟩
theorem splitR_parts (l:List Cl) (a:Cl):zol (parts l) a=parts (l++[a]):=by
 unfold zol;refine (zi4 (parts_srt _) (seq_of_mem ?_ ?_ (mem_split l a))).symm
 ·exact nodup_lk (flat_disj (zq2 l) a) fun x hx=>by
   obtain ⟨p,_,hxp⟩:=List.mem_flatMap.1 hx;exact (zig.1 hxp).2
 ·exact nodup_lk (zq2 _) fun x hx=>parts_pos hx
theorem parts_nil:parts []=[~~~ (0#256)]:=by
 have h:zgm []=[0]:=by decide +kernel
 unfold parts;rw [h];simp only [List.map_cons,List.map_nil,List.cons.injEq,and_true];apply Cl.ext;intro c hc;rw [ze4 hc,zpe hc,has_zero];rfl
theorem splitP_eq (l:List Cl):zhf l=parts l:=by
 have:∀(l pre:List Cl),l.foldl zol (parts pre)=parts (pre++l):=by
  intro l
  induction l with
  | nil=>intro pre;simp
  | cons a l ih=>intro pre;rw [List.foldl_cons,splitR_parts,ih];simp
 have:=this l [];rw [parts_nil] at this;simpa [zhf] using this
theorem heads_len (l:List Cl):(zgm l).length≤256:=by
 have:=List.length_filter_le (fun c=>(List.range c).all fun d=>!zgl l d c) (List.range 256);simpa [zgm] using this
theorem zll (l:List Cl):zon l=(zgm l).map (fun n:Nat=>(n:Int)):=by rw [zon,splitP_eq,parts_lk]
abbrev TS:=List (List SItem)
def mdB (q:Qb TS):Smade_scantling_api_State_search:=(q.1,q.2.1,q.2.2.1)
theorem zhc {α:Type} {xs:List α} {i:Nat} {x:α} (h:xs[i]?=some x):at? xs (i:Int)=some x:=by rw [zbw];exact h
theorem rev_in {l:List Int} (hl:l.length≤1000):zx l l.reverse:=by
 refine ⟨zh (by omega) (by omega), ?_⟩;have key:=zf2 (P:=fun k (s:List Int) v=>zx.l1 (zx.j1 l.reverse) k s v ((l.length:Int)-1-v)) l.length
  (fun i s=>s.length=l.length∧∀k,k<l.length→s[k]?=if k<i∨l.length≤k+i then l[l.length-1-k]? else l[k]?) ?_ ?_ l ⟨rfl,fun k hk=>by rw [if_neg (by omega)]⟩
 ·simpa using key
 ·rintro i s hi ⟨h1,h2⟩
  by_cases hij:i<l.length-1-i
  ·have hj:(l.length:Int)-1-(i:Int)=((l.length-1-i:Nat):Int):=by omega
   have e1:s[i]?=some l[i]:=by rw [h2 i hi,if_neg (by omega)];exact List.getElem?_eq_getElem hi
   have hjl:l.length-1-i<l.length:=by omega
   have e2:s[l.length-1-i]?=some l[l.length-1-i]:=by rw [h2 _ hjl,if_neg (by omega)];exact List.getElem?_eq_getElem hjl
   refine .inr ⟨(s.set i l[l.length-1-i]).set (l.length-1-i) l[i],⟨by simp [h1],fun k hk=>?_⟩,fun k hk=>⟨fun _=>⟨_,by rw [hj];exact zhc e2,_,zhc e1,_,zhc e1,l[l.length-1-i], ?_,zh (by omega) (by omega),zh (by omega) (by omega), ?_⟩,fun h=>absurd (by omega) (df h)⟩⟩
   ·rw [List.getElem?_set]
    by_cases hk1:l.length-1-i=k
    ·subst hk1;rw [if_pos rfl,if_pos (by simp [h1];omega),if_pos (by omega)];rw [show l.length-1-(l.length-1-i)=i by omega];exact (List.getElem?_eq_getElem hi).symm
    ·rw [if_neg hk1,List.getElem?_set]
     by_cases hk2:i=k
     ·subst hk2;rw [if_pos rfl,if_pos (by rw [h1];exact hi),if_pos (by omega)];exact (List.getElem?_eq_getElem hjl).symm
     ·rw [if_neg hk2,h2 k hk]
      by_cases hk3:k<i∨l.length≤k+i
      ·rw [if_pos hk3,if_pos (by omega)]
      ·rw [if_neg hk3,if_neg (by omega)]
   ·rw [hj];rw [Int.toNat_natCast,zbw,List.getElem?_set,if_neg (by omega)];exact e2
   ·rw [show (l.length:Int)-1-((i:Int)+1)=(l.length:Int)-1-(i:Int)-1 by omega] at hk;rw [hj] at hk ⊢;rw [Int.toNat_natCast,Int.toNat_natCast];exact hk
  ·refine .inl fun k=>⟨fun h=>absurd (dt h) (by omega),fun _=>?_⟩;show l.reverse=s;refine List.ext_getElem? fun k=>?_
   by_cases hk:k<l.length
   ·rw [List.getElem?_reverse hk,h2 k hk];split
    ·rfl
    ·rw [show l.length-1-k=k by omega]
   ·rw [List.getElem?_eq_none (by simp;omega),List.getElem?_eq_none (by omega)]
 ·rintro s ⟨h1,h2⟩ k;refine ⟨fun h=>absurd (dt h) (by omega),fun _=>?_⟩;show l.reverse=s;refine List.ext_getElem? fun k=>?_
  by_cases hk:k<l.length
  ·rw [List.getElem?_reverse hk,h2 k hk,if_pos (by omega)]
  ·rw [List.getElem?_eq_none (by simp;omega),List.getElem?_eq_none (by omega)]
theorem wordB_in {S:Sch TS} {acc:List (Qb TS)} (h:GoodB S acc) {i:Nat} {q:Qb TS} (hi:acc[i]?=some q) (hl:q.2.2.2.length≤1000):z7 (acc.map mdB) (i:Int) q.2.2.2:=by
 have hM:∀(j:Nat) (x:Qb TS),acc[j]?=some x→at? (acc.map mdB) (j:Int)=some (mdB x):=fun j x hx=>zhc (by rw [List.getElem?_map,hx];rfl);have:=run (P:=fun k (s:Int × List Int)=>z7.l1 (acc.map mdB) (z7.j1 q.2.2.2) k s.1 s.2) (fun s=>∃(j:Nat) (x:Qb TS),s.1=(j:Int)∧acc[j]?=some x∧x.2.2.2++s.2.reverse=q.2.2.2) (fun s=>s.1.toNat) ?_ ((i:Int),[]) ⟨i,q,rfl,hi,by simp⟩
 ·exact this
 ·rintro ⟨v,out⟩ ⟨j,x,h1,hx,hwo⟩;simp only at h1 hwo;subst h1;have hlen:out.length≤1000:=by
   have:=congrArg List.length hwo;simp at this;omega
  rcases h.par j x hx with ⟨h0,hx0⟩ | ⟨p,q',h2,h3,h4,h5,_⟩
  ·subst h0;subst hx0;refine .inl fun k=>⟨_,hM 0 _ hx,fun h=>absurd (dt h) (by simp [mdB]),fun _=>?_⟩;refine ⟨out.reverse,rev_in hlen, ?_⟩;simpa using hwo.symm
  ·refine .inr ⟨((p:Int),out++[x.2.2.1]),⟨p,q',rfl,h4, ?_⟩,by simp only;omega,fun k hk=>⟨_,hM j x hx,fun _=>⟨_,hM j x hx,by simp;omega,_,hM j x hx, ?_⟩,fun h=>absurd (by simp [mdB,h2]) (df h)⟩⟩
   ·rw [← hwo,h5];simp
   ·simp only [mdB];rw [h2];exact hk
def SnB (kf:TS→Str) (seen:List (Str × Bool)) (acc:List (Qb TS)):Prop:=∀z,zex seen (kf z) false=hasQ acc z
theorem snB_put {kf:TS→Str} (hinj:∀a b,kf a=kf b→a=b) {seen:List (Str × Bool)} {acc:List (Qb TS)} (h:SnB kf seen acc) (x:TS) (q:Int × Int × List Int):SnB kf (zgb seen (kf x) true) (acc++[(x,q)]):=fun z=>by
 rw [zo7,h z,hasQ_app]
 by_cases hz:x=z
 ·subst hz;simp
 ·rw [if_neg (fun e=>hz (hinj _ _ e))];simp [hz]
theorem roundB {S:Sch TS} {s_:SSpace_scantling_api_State_search} {kf:TS→Str} (hinj:∀a b,kf a=kf b→a=b) {i:Nat} {q0:Qb TS} {acc:List (Qb TS)} {seen:List (Str × Bool)} (hs:SnB kf seen acc)
  (hkey:∀e∈S.ways q0.1,s_.2.1 (e.2,kf e.2)) (hlen:acc.length+(S.ways q0.1).length≤2000000000) (X:List Smade_scantling_api_State_search→List (Str × Bool)→Prop)
  (hX:∀seen',SnB kf seen' (rdB S i q0 acc)→X ((rdB S i q0 acc).map mdB) seen'):∃k,zf.l2 s_ (i:Int) (S.ways q0.1) X k (acc.map mdB) seen 0:=by
 have hlj:∀j,(((S.ways q0.1).take j).foldl (stB i q0.2.2.2) acc).length≤2000000000:=fun j=>by
  have h1:=zjw i q0.2.2.2 ((S.ways q0.1).take j) acc;have h2:((S.ways q0.1).take j).length≤(S.ways q0.1).length:=by rw [List.length_take];omega
  omega
 refine zf2 (P:=fun k (s:List Smade_scantling_api_State_search × List (Str × Bool)) v=>zf.l2 s_ (i:Int) (S.ways q0.1) X k s.1 s.2 v) (S.ways q0.1).length
  (fun j s=>s.1=(((S.ways q0.1).take j).foldl (stB i q0.2.2.2) acc).map mdB∧SnB kf s.2 (((S.ways q0.1).take j).foldl (stB i q0.2.2.2) acc)) ?_ ?_ (acc.map mdB,seen) ⟨rfl,hs⟩
 ·rintro j ⟨ls,sn⟩ hj ⟨h1,h2⟩;simp only at h1 h2;subst h1;have hk:=hkey _ (List.getElem_mem hj);have hnext:((S.ways q0.1).take (j+1)).foldl (stB i q0.2.2.2) acc=stB i q0.2.2.2 (((S.ways q0.1).take j).foldl (stB i q0.2.2.2) acc) (S.ways q0.1)[j]:=by
   rw [List.take_succ_eq_append_getElem hj,List.foldl_append];rfl
  rw [hnext];have hlen2:=hlj j;have hll:(S.ways q0.1).length≤2000000000:=by omega
  generalize ((S.ways q0.1).take j).foldl (stB i q0.2.2.2) acc=A at *;cases hin:hasQ A (S.ways q0.1)[j].2
  ·refine .inr ⟨(A.map mdB++[((S.ways q0.1)[j].2,(i:Int),(S.ways q0.1)[j].1)],zgb sn (kf (S.ways q0.1)[j].2) true),⟨?_, ?_⟩,fun k h=>⟨fun _=>⟨_,zhc (List.getElem?_eq_getElem hj),kf (S.ways q0.1)[j].2,hk,fun _=>⟨by simp;omega,zh (by omega) (by omega),h⟩,fun hc=>?_⟩,fun h=>absurd (by omega) (df h)⟩⟩
   ·simp only [stB,hin,Bool.false_eq_true,if_false,List.map_append];rfl
   ·simp only [stB,hin,Bool.false_eq_true,if_false];exact snB_put hinj h2 _ _
   ·rw [h2,hin] at hc;cases hc
  ·refine .inr ⟨(A.map mdB,sn),⟨?_, ?_⟩,fun k h=>⟨fun _=>⟨_,zhc (List.getElem?_eq_getElem hj),kf (S.ways q0.1)[j].2,hk,fun hc=>?_,fun _=>⟨zh (by omega) (by omega),h⟩⟩,fun h=>absurd (by omega) (df h)⟩⟩
   ·simp only [stB,hin,if_true]
   ·simp only [stB,hin,if_true];exact h2
   ·rw [h2,hin] at hc;cases hc
 ·rintro ⟨ls,sn⟩ ⟨h1,h2⟩ k;simp only at h1 h2;rw [List.take_length] at h1 h2;subst h1;exact ⟨fun h=>absurd (dt h) (by omega),fun _=>hX sn h2⟩
def zgp (v:Int × List Int × Int × Option TS):SFound_scantling_api_State_search:=((v.1,v.2.1,[],0,0,0,v.2.2.1),v.2.2.2.getD [])
theorem walkB_in {S:Sch TS} {kf:TS→Str} (hinj:∀a b,kf a=kf b→a=b) {KP:TS × Str→Prop} {WP:TS × List SOn_scantling_api_State_search→Prop} {HP:TS × Bool→Prop} {b:Int} (hb:b≤1000) (h0:KP (S.start,kf S.start))
  (hh:∀(i:Nat) q,(i:Int)<b→(zdc S i)[i]?=some q→HP (q.1,S.hit q.1))
  (hw:∀(i:Nat) q,(i:Int)<b→(zdc S i)[i]?=some q→S.hit q.1=false→WP (q.1,S.ways q.1)∧(S.ways q.1).length≤256∧∀e∈S.ways q.1,KP (e.2,kf e.2)):
  zf (S.start,KP,WP,HP) b (zgp (srchB S b)):=by
 refine ⟨_,h0, ?_⟩;refine zri (P:=fun k (s:List Smade_scantling_api_State_search × List (Str × Bool)) v=>zf.l1 (S.start,KP,WP,HP) b (zgp (srchB S b)) _ k ((0,[],[],0,0,0,0),[]) s.1 s.2 v) b.toNat
  (fun i s=>s.1=(zdc S i).map mdB∧SnB kf s.2 (zdc S i)∧srchB S b=verdB S b (b.toNat+1-i) i∧(zdc S i).length≤1+256*i) ?_ ?_ ([(S.start, -1,0)],_) ⟨rfl,fun z=>?_,rfl,by simp [zdc]⟩
 ·rintro i ⟨ls,sn⟩ k hi ⟨h1,h2,h3,h4⟩ hk;simp only at h1 h2 h3 h4;subst h1;have hib:(i:Int)<b:=by omega
  obtain ⟨f,hf⟩:∃f,b.toNat+1-i=f+1:=⟨b.toNat-i,by omega⟩;rw [hf] at h3;unfold verdB at h3;cases hq:(zdc S i)[i]? with
  | none=>
   rw [hq] at h3;simp only at h3;have hl:=List.getElem?_eq_none_iff.1 hq;refine ⟨fun h=>absurd (dt h) (by simp;omega),fun _=>?_⟩;show zgp _=_;rw [h3];simp [zgp]
  | some q=>
   rw [hq] at h3;simp only at h3;have hl:=(List.getElem?_eq_some_iff.1 hq).1;rw [if_neg (by omega)] at h3;refine ⟨fun _=>⟨fun h=>absurd (dt h) (by omega),fun _=>⟨mdB q,zhc (by rw [List.getElem?_map,hq];rfl),_,hh i q hib hq,fun hhit=>?_,fun hno=>?_⟩⟩,fun h=>absurd (by simp;omega) (df h)⟩
   ·have hhit':S.hit q.1=true:=hhit;rw [if_pos hhit'] at h3;have hg:=zj3 S i;have hwl:=hg.wlen i q hq;refine ⟨q.2.2.2,wordB_in hg hq (by omega),zh (by omega) (by omega), ?_⟩;rw [h3];rfl
   ·have hno':S.hit q.1=false:=hno;rw [if_neg (by rw [hno'];simp)] at h3;obtain ⟨w1,w2,w3⟩:=hw i q hib hq hno';refine ⟨_,w1,roundB (S:=S) (q0:=q) (kf:=kf) hinj h2 w3 (by omega) _ fun seen' hs'=>?_⟩;have hn:=zj2 hq;refine ⟨zh (by omega) (by omega),hk (_,seen') ⟨by rw [hn],by rw [hn];exact hs', ?_, ?_⟩⟩
    ·rw [h3,show b.toNat+1-(i+1)=f by omega]
    ·rw [hn];have:=zjw i q.2.2.2 (S.ways q.1) (zdc S i);unfold rdB;omega
 ·rintro ⟨ls,sn⟩ ⟨h1,h2,h3,h4⟩ k;simp only at h1 h2 h3 h4;subst h1;rw [show b.toNat+1-b.toNat=0+1 by omega] at h3;unfold verdB at h3;cases hq:(zdc S b.toNat)[b.toNat]? with
  | none=>
   rw [hq] at h3;simp only at h3;have hl:=List.getElem?_eq_none_iff.1 hq;refine ⟨fun h=>absurd (dt h) (by simp;omega),fun _=>?_⟩;show zgp _=_;rw [h3];simp [zgp]
  | some q=>
   rw [hq] at h3;simp only at h3;have hl:=(List.getElem?_eq_some_iff.1 hq).1;rw [if_pos (by omega)] at h3;refine ⟨fun _=>⟨fun _=>?_,fun h=>absurd (by omega) (df h)⟩,fun h=>absurd (by simp;omega) (df h)⟩;rw [h3];rfl
 ·show zex (zgb [] (kf S.start) true) (kf z) false=_;rw [zo7,zsy]
  by_cases hz:S.start=z
  ·subst hz;simp [zdc,hasQ]
  ·rw [if_neg (fun e=>hz (hinj _ _ e))];simp [zdc,hasQ,hz]
def Lv (d:List SNode) (s:List SItem) (l:List (List SItem)):Prop:=∃h,lv d h s=some l
theorem Lv.uniq {d:List SNode} {s:List SItem} {l m:List (List SItem)} (h:Lv d s l) (k:Lv d s m):l=m:=by
 obtain ⟨a,ha⟩:=h;obtain ⟨b,hb⟩:=k;have h1:=zjq (Nat.le_max_left a b) ha;have h2:=zjq (Nat.le_max_right a b) hb;rw [h1] at h2;exact Option.some.inj h2
theorem Lv.ready {d:List SNode} {s:List SItem} (h:rdy d s=true):Lv d s [s]:=⟨1,by simp [lv,h]⟩
theorem lv_list {d:List SNode}:∀(ss:List (List SItem)) (f:List SItem→List (List SItem)),(∀t∈ss,Lv d t (f t))→∃h,ss.mapM (lv d h)=some (ss.map f)
 | [],_,_=>⟨0,rfl⟩
 | s::ss,f,hs=>by
  obtain ⟨h1,e1⟩:=hs s (by simp);obtain ⟨h2,e2⟩:=lv_list ss f fun t ht=>hs t (by simp [ht]);refine ⟨max h1 h2, ?_⟩;rw [List.mapM_cons,zjq (Nat.le_max_left h1 h2) e1,zo8 (fun a b hb=>zjq (Nat.le_max_right h1 h2) hb) _ _ e2];rfl
theorem Lv.open {d:List SNode} {s:List SItem} (hr:rdy d s=false) (f:List SItem→List (List SItem)) (h:∀t∈opn d s,Lv d t (f t)):Lv d s ((opn d s).map f).flatten:=by
 obtain ⟨k,e⟩:=lv_list _ f h;exact ⟨k+1,by unfold lv;rw [if_neg (by rw [hr];simp),e];rfl⟩
def PM (d:List SNode):Nat→Int→List (List SItem) × Nat
 | 0,_=>([],0)
 | k+1,i=>match at? d i with
  | none=>([],0)
  | some n=>
   if n.1=1 then ([],1)
   else if n.1=3 then ([[(3,i,0,0)]],0)
   else if n.1=4 then ((PM d k n.2.1).1.map (·++[(1,n.2.2.1,0,0)])++(List.replicate (PM d k n.2.1).2 (PM d k n.2.2.1).1).flatten,(PM d k n.2.1).2*(PM d k n.2.2.1).2)
   else if n.1=5 then ((PM d k n.2.1).1++(PM d k n.2.2.1).1,(PM d k n.2.1).2+(PM d k n.2.2.1).2)
   else if n.1=6 then ((PM d k n.2.1).1.map (·++[(1,i,0,0)]),1)
   else if n.1=7 then (if 0<n.2.2.2.2.1 then (PM d k n.2.1).1.map (·++[(2,i,max (n.2.2.2.1-1) 0,n.2.2.2.2.1-1)]) else [],if n.2.2.2.1=0 then 1 else 0)
   else ([[(1,i,0,0)]],0)
theorem zj4 {d:List SNode} (hd:ROk d):∀(k k':Nat) (i:Int),i<(k:Int)→i<(k':Int)→PM d k i=PM d k' i
 | 0,k',i,h,h'=>by
  cases k' with
  | zero=>rfl
  | succ k'=>
   have:at? d i=none:=by
    unfold at?;rw [if_neg (by omega)]
   simp [PM,this]
 | k+1,0,i,h,h'=>by
  have:at? d i=none:=by
   unfold at?;rw [if_neg (by omega)]
  simp [PM,this]
 | k+1,k'+1,i,h,h'=>by
  cases hn:at? d i with
  | none=>simp only [PM,hn]
  | some n=>
   simp only [PM,hn]
   by_cases h1:n.1=1
   ·simp [h1]
   ·by_cases h3:n.1=3
    ·simp [h3]
    ·by_cases h4:n.1=4
     ·obtain ⟨⟨a,b⟩,c,e⟩:=hd.two _ n hn (.inl h4);rw [zj4 hd k k' n.2.1 (by omega) (by omega),zj4 hd k k' n.2.2.1 (by omega) (by omega)]
     ·by_cases h5:n.1=5
      ·obtain ⟨⟨a,b⟩,c,e⟩:=hd.two _ n hn (.inr h5);rw [zj4 hd k k' n.2.1 (by omega) (by omega),zj4 hd k k' n.2.2.1 (by omega) (by omega)]
      ·by_cases h6:n.1=6
       ·obtain ⟨a,b⟩:=hd.one _ n hn (.inl h6);rw [zj4 hd k k' n.2.1 (by omega) (by omega)];simp [h6]
       ·by_cases h7:n.1=7
        ·obtain ⟨a,b⟩:=hd.one _ n hn (.inr (.inl h7));rw [zj4 hd k k' n.2.1 (by omega) (by omega)];simp [h7]
        ·simp [h1,h3,h4,h5,h6,h7]
def pm (d:List SNode) (i:Int):List (List SItem):=(PM d d.length i).1
def nw (d:List SNode) (i:Int):Nat:=(PM d d.length i).2
theorem zkw {d:List SNode} (hd:ROk d) {i:Int} {n:SNode} (hn:at? d i=some n):PM d d.length i =
  (if n.1=1 then ([],1)
   else if n.1=3 then ([[(3,i,0,0)]],0)
   else if n.1=4 then ((pm d n.2.1).map (·++[(1,n.2.2.1,0,0)])++(List.replicate (nw d n.2.1) (pm d n.2.2.1)).flatten,nw d n.2.1*nw d n.2.2.1)
   else if n.1=5 then (pm d n.2.1++pm d n.2.2.1,nw d n.2.1+nw d n.2.2.1)
   else if n.1=6 then ((pm d n.2.1).map (·++[(1,i,0,0)]),1)
   else if n.1=7 then (if 0<n.2.2.2.2.1 then (pm d n.2.1).map (·++[(2,i,max (n.2.2.2.1-1) 0,n.2.2.2.2.1-1)]) else [],if n.2.2.2.1=0 then 1 else 0)
   else ([[(1,i,0,0)]],0)):=by
 obtain ⟨hb0,hb1⟩:=zb6 hn;rw [zj4 hd d.length (d.length+1) i hb1 (by omega)];simp only [PM,hn,pm,nw]
theorem zk9 {d:List SNode} (hd:ROk d):∀(k:Nat) (i:Int) (n:SNode),i<(k:Int)→at? d i=some n→(nw d i≠0↔nz d i=true)
 | 0,i,n,hi,hn=>by have:=zb6 hn;omega
 | k+1,i,n,hi,hn=>by
  have e:=zkw hd hn;have en:nw d i=(PM d d.length i).2:=rfl;rw [en,e,nz_at hd hn]
  by_cases h1:n.1=1
  ·simp [h1]
  ·by_cases h3:n.1=3
   ·simp [h3]
   ·by_cases h4:n.1=4
    ·obtain ⟨⟨a,b⟩,c,e⟩:=hd.two _ n hn (.inl h4);obtain ⟨m1,hm1⟩:=zea hn a b;obtain ⟨m2,hm2⟩:=zea hn c e;have i1:=zk9 hd k _ m1 (by omega) hm1;have i2:=zk9 hd k _ m2 (by omega) hm2;rw [if_neg h1,if_neg h3,if_pos h4,if_neg h1,if_pos h4,Bool.and_eq_true,← i1,← i2];simp only;rw [Nat.mul_ne_zero_iff]
    ·by_cases h5:n.1=5
     ·obtain ⟨⟨a,b⟩,c,e⟩:=hd.two _ n hn (.inr h5);obtain ⟨m1,hm1⟩:=zea hn a b;obtain ⟨m2,hm2⟩:=zea hn c e;have i1:=zk9 hd k _ m1 (by omega) hm1;have i2:=zk9 hd k _ m2 (by omega) hm2;rw [if_neg h1,if_neg h3,if_neg h4,if_pos h5,if_neg h1,if_neg h4,if_pos h5,Bool.or_eq_true,← i1,← i2];simp only;omega
     ·by_cases h6:n.1=6
      ·simp [h6]
      ·by_cases h7:n.1=7
       ·by_cases h0:n.2.2.2.1=0 <;> simp [h7,h0]
       ·simp [h1,h3,h4,h5,h6,h7]
def pmI (d:List SNode) (x:SItem):List (List SItem):=
 if x.1=1 then pm d x.2.1
 else if x.1=2 then (match at? d x.2.1 with | some n=>if 0<x.2.2.2 then (pm d n.2.1).map (·++[(2,x.2.1,max (x.2.2.1-1) 0,x.2.2.2-1)]) else [] | none=>[])
 else if x.1=5 then [] else [[x]]
def nwI (d:List SNode) (x:SItem):Nat:=
 if x.1=1 then nw d x.2.1 else if x.1=2 then (if x.2.2.1=0 then 1 else 0) else if x.1=5 then (if x.2.2.1=0 then 1 else 0) else 0
abbrev Told (d:List SNode) (P:List (List SItem)) (m:Nat) (rest:List SItem) (s:List SItem):Prop:=
 ∀lr,(m≠0→Lv d rest lr)→∃l,Lv d s l∧l.Perm (P.map (·++rest)++(List.replicate m lr).flatten)
theorem perm_flat {α:Type} {a b:List α} (h:a.Perm b) (m:Nat):(List.replicate m a).flatten.Perm (List.replicate m b).flatten:=by
 induction m with
 | zero=>exact .refl _
 | succ m ih=>
  rw [List.replicate_succ,List.replicate_succ,List.flatten_cons,List.flatten_cons];exact h.append ih
theorem rep_split {α:Type} (m:Nat) (a b:List α):(List.replicate m (a++b)).flatten.Perm ((List.replicate m a).flatten++(List.replicate m b).flatten):=by
 induction m with
 | zero=>exact .refl _
 | succ m ih=>
  simp only [List.replicate_succ,List.flatten_cons];refine (ih.append_left (a++b)).trans ?_;rw [List.append_assoc,List.append_assoc];refine List.Perm.append_left a ?_;rw [← List.append_assoc,← List.append_assoc];exact (List.perm_append_comm).append_right _
theorem rep_rep {α:Type} (m k:Nat) (a:List α):(List.replicate m (List.replicate k a).flatten).flatten=(List.replicate (m*k) a).flatten:=by
 induction m with
 | zero=>simp
 | succ m ih=>rw [List.replicate_succ,List.flatten_cons,ih,Nat.succ_mul,Nat.add_comm,← List.replicate_append_replicate,List.flatten_append]
theorem rep_map {α β:Type} (f:α→β) (m:Nat) (a:List α):((List.replicate m a).flatten).map f=(List.replicate m (a.map f)).flatten:=by
 rw [List.map_flatten,List.map_replicate]
theorem told_seq {d:List SNode} {P1 P2:List (List SItem)} {m1 m2:Nat} {b:SItem} {rest s:List SItem} (h1:Told d P1 m1 (b::rest) s) (h2:Told d P2 m2 rest (b::rest)):Told d (P1.map (·++[b])++(List.replicate m1 P2).flatten) (m1*m2) rest s:=by
 intro lr hlr;have key:∃lb,(m1≠0→Lv d (b::rest) lb∧lb.Perm (P2.map (·++rest)++(List.replicate m2 lr).flatten)):=by
  by_cases h:m1=0
  ·exact ⟨[],fun k=>absurd h k⟩
  ·obtain ⟨lb,k1,k2⟩:=h2 lr fun k=>hlr (Nat.mul_ne_zero h k);exact ⟨lb,fun _=>⟨k1,k2⟩⟩
 obtain ⟨lb,hlb⟩:=key;obtain ⟨l,k1,k2⟩:=h1 lb fun k=>(hlb k).1;refine ⟨l,k1,k2.trans ?_⟩;have e1:P1.map (·++b::rest)=(P1.map (·++[b])).map (·++rest):=by
  rw [List.map_map];apply List.map_congr_left;intro p _;simp
 rw [e1,List.map_append,List.append_assoc];refine List.Perm.append_left _ ?_
 by_cases h:m1=0
 ·subst h;simp
 ·refine (perm_flat (hlb h).2 m1).trans ?_;refine (rep_split m1 _ _).trans ?_;rw [rep_map,rep_rep]
theorem zo9 {d:List SNode} {s t:List SItem} (hr:rdy d s=false) (ho:opn d s=[t]) {l:List (List SItem)} (h:Lv d t l):Lv d s l:=by
 have:=Lv.open hr (fun _=>l) (fun x hx=>by rw [ho] at hx;rw [List.mem_singleton.1 hx];exact h);rw [ho] at this;simpa using this
theorem lv_two {d:List SNode} {s t u:List SItem} (hr:rdy d s=false) (ho:opn d s=[t,u]) {l m:List (List SItem)} (h:Lv d t l) (k:Lv d u m):Lv d s (l++m):=by
 by_cases htu:t=u
 ·subst htu;rw [k.uniq h];have:=Lv.open hr (fun _=>l) (fun x hx=>by rw [ho] at hx;simp at hx;rw [hx];exact h);rw [ho] at this;simpa using this
 ·have:=Lv.open hr (fun x=>if x=t then l else m) (fun x hx=>by
   rw [ho] at hx;simp only [List.mem_cons,List.not_mem_nil,or_false] at hx;rcases hx with rfl | rfl
   ·simp;exact h
   ·simp [Ne.symm htu];exact k)
  rw [ho] at this;simpa [Ne.symm htu] using this
theorem lv_none {d:List SNode} {s:List SItem} (hr:rdy d s=false) (ho:opn d s=[]):Lv d s []:=by
 have:=Lv.open hr (fun _=>[]) (fun x hx=>by rw [ho] at hx;cases hx);rw [ho] at this;simpa using this
theorem told_rep {d:List SNode} (hd:ROk d) {i:Int} {n:SNode} (hn:at? d i=some n) (h7:n.1=7) (hA:∀rest,Told d (pm d n.2.1) 0 rest ((1,n.2.1,0,0)::rest)) (lo hi:Int) (rest:List SItem):
  Told d (if 0<hi then (pm d n.2.1).map (·++[(2,i,max (lo-1) 0,hi-1)]) else []) (if lo=0 then 1 else 0) rest ((2,i,lo,hi)::rest):=by
 intro lr hlr;have hr:rdy d ((2,i,lo,hi)::rest)=false:=by simp [rdy]
 have ho:opn d ((2,i,lo,hi)::rest)=(if lo=0 then [rest] else [])++(if 0<hi then [(1,n.2.1,0,0)::(2,i,max (lo-1) 0,hi-1)::rest] else []):=by
  simp only [opn,hn];rw [if_neg (by decide),if_pos trivial]
 obtain ⟨la,ha,hpa⟩:=hA ((2,i,max (lo-1) 0,hi-1)::rest) [] (fun h=>absurd rfl h);have e1:(pm d n.2.1).map (·++(2,i,max (lo-1) 0,hi-1)::rest)=((pm d n.2.1).map (·++[(2,i,max (lo-1) 0,hi-1)])).map (·++rest):=by
  rw [List.map_map];apply List.map_congr_left;intro p _;simp
 rw [e1] at hpa;simp only [List.replicate_zero,List.flatten_nil,List.append_nil] at hpa
 by_cases h0:lo=0
 ·have hL:=hlr (by simp [h0])
  by_cases h1:0<hi
  ·refine ⟨_,lv_two hr (by rw [ho,if_pos h0,if_pos h1];rfl) hL ha, ?_⟩;rw [if_pos h1,if_pos h0];simp only [List.replicate_one,List.flatten_cons,List.flatten_nil,List.append_nil];exact (List.perm_append_comm).trans (hpa.append_right _)
  ·refine ⟨_,zo9 hr (by rw [ho,if_pos h0,if_neg h1];rfl) hL, ?_⟩;rw [if_neg h1,if_pos h0];simp
 ·by_cases h1:0<hi
  ·refine ⟨_,zo9 hr (by rw [ho,if_neg h0,if_pos h1];rfl) ha, ?_⟩;rw [if_pos h1,if_neg h0];simpa using hpa
  ·refine ⟨_,lv_none hr (by rw [ho,if_neg h0,if_neg h1];rfl), ?_⟩;rw [if_neg h1,if_neg h0];simp
theorem zoe {d:List SNode} (hd:ROk d):∀(k:Nat) (i:Int) (n:SNode),i<(k:Int)→at? d i=some n→∀rest,Told d (pm d i) (nw d i) rest ((1,i,0,0)::rest)
 | 0,i,n,hi,hn,_=>by have:=zb6 hn;omega
 | k+1,i,n,hi,hn,rest=>by
  have ih:=zoe hd k;have e:=zkw hd hn;have ep:pm d i=(PM d d.length i).1:=rfl;have en:nw d i=(PM d d.length i).2:=rfl;rw [ep,en,e];have hk9:=hd.kind _ n hn;have rd0:(n.1≠2∧n.1≠8∧n.1≠9)→rdy d ((1,i,0,0)::rest)=false:=fun h=>by
   simp only [rdy,hn];simp [h.1,h.2.1,h.2.2]
  have op0:opn d ((1,i,0,0)::rest)=(if n.1=1 then [rest] else if n.1=3 then [(3,i,0,0)::rest] else if n.1=4 then [(1,n.2.1,0,0)::(1,n.2.2.1,0,0)::rest] else if n.1=5 then [(1,n.2.1,0,0)::rest,(1,n.2.2.1,0,0)::rest]
    else if n.1=6 then [rest,(1,n.2.1,0,0)::(1,i,0,0)::rest] else [(2,i,n.2.2.2.1,n.2.2.2.2.1)::rest]):=by
   simp only [opn,hn];rw [if_neg (by decide),if_neg (by decide)]
  have z0:∀a:Int,0≤a→a<i→nz d a=false→nw d a=0:=fun a h0 h1 hz=>by
   obtain ⟨m,hm⟩:=zea hn h0 h1;rcases Nat.eq_zero_or_pos (nw d a) with h | h
   ·exact h
   ·have:=(zk9 hd k a m (by omega) hm).1 (by omega);rw [hz] at this;cases this
  by_cases h1:n.1=1
  ·rw [if_pos h1];intro lr hlr;refine ⟨lr,zo9 (rd0 (by omega)) (by rw [op0,if_pos h1]) (hlr (by simp)),by simp⟩
  ·rw [if_neg h1] at op0 ⊢
   by_cases h3:n.1=3
   ·rw [if_pos h3] at op0 ⊢;intro lr hlr;exact ⟨_,zo9 (rd0 (by omega)) op0 (Lv.ready (by simp [rdy])),by simp⟩
   ·rw [if_neg h3] at op0 ⊢
    by_cases h4:n.1=4
    ·rw [if_pos h4] at op0 ⊢;obtain ⟨⟨a,b⟩,c,e⟩:=hd.two _ n hn (.inl h4);obtain ⟨m1,hm1⟩:=zea hn a b;obtain ⟨m2,hm2⟩:=zea hn c e;have:=told_seq (ih _ m1 (by omega) hm1 ((1,n.2.2.1,0,0)::rest)) (ih _ m2 (by omega) hm2 rest);intro lr hlr;obtain ⟨l,k1,k2⟩:=this lr hlr;exact ⟨l,zo9 (rd0 (by omega)) op0 k1,k2⟩
    ·rw [if_neg h4] at op0 ⊢
     by_cases h5:n.1=5
     ·rw [if_pos h5] at op0 ⊢;obtain ⟨⟨a,b⟩,c,e⟩:=hd.two _ n hn (.inr h5);obtain ⟨m1,hm1⟩:=zea hn a b;obtain ⟨m2,hm2⟩:=zea hn c e;intro lr hlr;simp only at hlr;obtain ⟨l1,k1,k2⟩:=ih _ m1 (by omega) hm1 rest lr fun h=>hlr (by omega);obtain ⟨l2,k3,k4⟩:=ih _ m2 (by omega) hm2 rest lr fun h=>hlr (by omega);refine ⟨_,lv_two (rd0 (by omega)) op0 k1 k3,(k2.append k4).trans ?_⟩;rw [List.map_append,← List.replicate_append_replicate,List.flatten_append,List.append_assoc,List.append_assoc];refine List.Perm.append_left _ ?_;rw [← List.append_assoc,← List.append_assoc];exact (List.perm_append_comm).append_right _
     ·rw [if_neg h5] at op0 ⊢
      by_cases h6:n.1=6
      ·rw [if_pos h6] at op0 ⊢;obtain ⟨a,b⟩:=hd.one _ n hn (.inl h6);obtain ⟨m1,hm1⟩:=zea hn a b;have hz:=z0 _ a b (hd.nn _ n hn (.inl h6));intro lr hlr;have hA:=ih _ m1 (by omega) hm1 ((1,i,0,0)::rest) [] (fun h=>absurd hz h);obtain ⟨l1,k1,k2⟩:=hA;refine ⟨_,lv_two (rd0 (by omega)) op0 (hlr (by simp)) k1, ?_⟩;rw [hz] at k2;have e1:(pm d n.2.1).map (·++(1,i,0,0)::rest)=((pm d n.2.1).map (·++[(1,i,0,0)])).map (·++rest):=by
        rw [List.map_map];apply List.map_congr_left;intro p _;simp
       rw [e1] at k2;simp only [List.replicate_zero,List.flatten_nil,List.append_nil] at k2;simp only [List.replicate_one,List.flatten_cons,List.flatten_nil,List.append_nil];exact (List.perm_append_comm).trans (k2.append_right _)
      ·rw [if_neg h6] at op0 ⊢
       by_cases h7:n.1=7
       ·rw [if_pos h7];obtain ⟨a,b⟩:=hd.one _ n hn (.inr (.inl h7));obtain ⟨m1,hm1⟩:=zea hn a b;have hz:=z0 _ a b (hd.nn _ n hn (.inr h7));have:=told_rep hd hn h7 (fun rest=>by have:=ih _ m1 (by omega) hm1 rest;rw [hz] at this;exact this) n.2.2.2.1 n.2.2.2.2.1 rest;intro lr hlr;obtain ⟨l,k1,k2⟩:=this lr hlr;exact ⟨l,zo9 (rd0 (by omega)) op0 k1,k2⟩
       ·rw [if_neg h7];intro lr hlr;refine ⟨_,Lv.ready ?_,by simp⟩;simp only [rdy,hn];have:n.1=2∨n.1=8∨n.1=9:=by omega
        rcases this with h | h | h <;> simp [h]
theorem told_item {d:List SNode} (hd:ROk d) {x:SItem} (hx:zfm d x=true) (rest:List SItem):Told d (pmI d x) (nwI d x) rest (x::rest):=by
 by_cases h5:x.1=5
 ·have e1:pmI d x=[]:=by simp [pmI,h5]
  have e2:nwI d x=if x.2.2.1=0 then 1 else 0:=by simp [nwI,h5]
  rw [e1,e2];intro lr hlr;have hr:rdy d (x::rest)=false:=by simp [rdy,h5]
  by_cases h0:x.2.2.1=0
  ·rw [if_pos h0] at hlr ⊢;refine ⟨lr,zo9 hr (by simp [opn,h5,h0]) (hlr (by simp)),by simp⟩
  ·rw [if_neg h0];exact ⟨_,lv_none hr (by simp [opn,h5,h0]),by simp⟩
 ·obtain ⟨n,hn,hk⟩:=zgf hx h5;rcases hk with h1 | ⟨h2,h7⟩ | ⟨h3,_⟩ | ⟨h4,_⟩
  ·have e:x=(1,x.2.1,0,0):=by
    unfold zfm at hx;rw [if_neg h5,hn] at hx;simp [h1] at hx;obtain ⟨a,b,c,e⟩:=x;simp only at h1 hx;rw [h1,hx.1,hx.2]
   have e1:pmI d x=pm d x.2.1:=by simp [pmI,h1]
   have e2:nwI d x=nw d x.2.1:=by simp [nwI,h1]
   have:=zb6 hn;rw [e1,e2];have ht:=zoe hd d.length _ n (by omega) hn rest;rw [← e] at ht;exact ht
  ·have e1:pmI d x=if 0<x.2.2.2 then (pm d n.2.1).map (·++[(2,x.2.1,max (x.2.2.1-1) 0,x.2.2.2-1)]) else []:=by simp [pmI,h2,hn]
   have e2:nwI d x=if x.2.2.1=0 then 1 else 0:=by simp [nwI,h2]
   rw [e1,e2];obtain ⟨a,b⟩:=hd.one _ n hn (.inr (.inl h7));obtain ⟨m1,hm1⟩:=zea hn a b;have hb:=zb6 hn;have hz:nw d n.2.1=0:=by
    rcases Nat.eq_zero_or_pos (nw d n.2.1) with h | h
    ·exact h
    ·have:=(zk9 hd d.length _ m1 (by omega) hm1).1 (by omega);rw [hd.nn _ n hn (.inr h7)] at this;cases this
   have:=told_rep hd hn h7 (fun rest=>by have:=zoe hd d.length _ m1 (by omega) hm1 rest;rw [hz] at this;exact this) x.2.2.1 x.2.2.2 rest;obtain ⟨xk,xi,xl,xh⟩:=x;simp only at h2;subst h2;exact this
  ·have e1:pmI d x=[[x]]:=by simp [pmI,h3]
   have e2:nwI d x=0:=by simp [nwI,h3]
   rw [e1,e2];intro lr _;exact ⟨_,Lv.ready (by simp [rdy,h3]),by simp⟩
  ·have e1:pmI d x=[[x]]:=by simp [pmI,h4]
   have e2:nwI d x=0:=by simp [nwI,h4]
   rw [e1,e2];intro lr _;exact ⟨_,Lv.ready (by simp [rdy,h4]),by simp⟩
def hds (d:List SNode):List SItem→List (List SItem)
 | []=>[[]]
 | x::rest=>(pmI d x).map (·++rest)++(List.replicate (nwI d x) (hds d rest)).flatten
theorem hds_lv {d:List SNode} (hd:ROk d):∀(s:List SItem),zez d s=true→∃l,Lv d s l∧l.Perm (hds d s)
 | [],_=>⟨[[]],Lv.ready rfl,.refl _⟩
 | x::rest,hf=>by
  obtain ⟨h1,h2⟩:=zd7 hf;obtain ⟨lr,k1,k2⟩:=hds_lv hd rest h2;obtain ⟨l,k3,k4⟩:=told_item hd h1 rest lr fun _=>k1;exact ⟨l,k3,k4.trans (List.Perm.append_left _ (perm_flat k2 _))⟩
end Go.Proofs.YtahgmdbioafmbaaGreatDoor.V
