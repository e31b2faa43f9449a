/- The walk of HashExpands. -/
import Derived.Test.YtpidapgglkoogaaDoorLaw2
import Derived.Test.YtpidapgglkoogaaDoorLibK
namespace Go.Proofs.YtpidapgglkoogaaDoor
open Go.RowKit Go.Jal

set_option maxRecDepth 100000 in
set_option maxHeartbeats 2000000 in
theorem hashExpands_any (key : List Nat) (v : Value) (info : List Nat) (n : Int) (w : World) (hkn : key.length = 32) (hkl : ∀ x ∈ key, x < 256) (h : Bs w v info) (hn1 : -9223372036854775808 ≤ n) (hn2 : n ≤ 9223372036854775807) (hK : Has w 1 64 (wF Sha.K)) (hK0 : Has w 0 64 (wF Sha.K)) :
    Ret Tryd.prog 9 #[.agg (row 32 (bF key)), v, .int .i64 n] w fun v' w' => v' = .bool true ∧ St w [] [] w' := by
  go_enter Tryd.func9, Tryd.ntmps9
  have hst := St.refl w
  obtain ⟨ad, c, rfl, _⟩ := id h
  by_cases hi : 200 < info.length
  · go_wp2_with (first
      | ((with_reducible refine at_op (o := ⟨some 3, _, _, _, _, _⟩) ?_); go_loud (refine wl_box rfl rfl rfl (by first | rfl | exact row_one _) hst ?_; intro b3 w3 hb3 hst1; clear hst; have hst := hst1; clear hst1))
      | ((with_reducible refine at_op (o := ⟨some 10, _, _, _, _, _⟩) ?_); go_loud (refine wl_call pl10 rfl rfl rfl (awake_any _ (hK.keep hst.none)) ?_; rintro v10 w10 ⟨rfl, hst10⟩; replace hst := hst.call hst10; clear hst10))
      | ((with_reducible refine at_op (o := ⟨some 15, _, _, _, _, _⟩) ?_); go_loud (refine wl_cmp (p := info.length) (q := 200) (r := true) (by simp [cmpI] <;> omega) rfl rfl rfl rfl rfl (by (conv => lhs; simp only [put_lit, put_none, setL]) <;> rfl) ?_))
      | ((with_reducible refine at_op (o := ⟨some 25, _, _, _, _, _⟩) ?_); go_loud (refine wl_call pl10 rfl rfl rfl (awake_any _ (hK.keep hst.none)) ?_; rintro v25 w25 ⟨rfl, hst25⟩; replace hst := hst.call hst25; clear hst25))
      | ((with_reducible refine at_op (o := ⟨some 27, _, _, _, _, _⟩) ?_); go_loud ((first | (refine wl_loadAll rfl rfl rfl (by first | exact St.hasb hst (by repeat (first | exact Pick.head | apply Pick.tail)) | exact St.hasOld hst (by assumption) (by simp)) agg26 (by (conv => lhs; simp only [put_lit, put_none, setL]) <;> rfl) ?_) | (refine wl_loadN rfl rfl rfl (by first | exact St.hasb hst (by repeat (first | exact Pick.head | apply Pick.tail)) | exact St.hasOld hst (by assumption) (by simp)) agg26 (by omega) (by (conv => lhs; simp only [put_lit, put_none, setL]) <;> rfl) ?_))))
      | ((with_reducible refine at_op (o := ⟨some 30, _, _, _, _, _⟩) ?_); go_loud (go_outline; fail "call 18"))
      | ((with_reducible refine at_op (o := ⟨some 46, _, _, _, _, _⟩) ?_); go_loud ((first | (refine wl_loadAll rfl rfl rfl (by first | exact St.hasb hst (by repeat (first | exact Pick.head | apply Pick.tail)) | exact St.hasOld hst (by assumption) (by simp)) agg26 (by (conv => lhs; simp only [put_lit, put_none, setL]) <;> rfl) ?_) | (refine wl_loadN rfl rfl rfl (by first | exact St.hasb hst (by repeat (first | exact Pick.head | apply Pick.tail)) | exact St.hasOld hst (by assumption) (by simp)) agg26 (by omega) (by (conv => lhs; simp only [put_lit, put_none, setL]) <;> rfl) ?_))))
      | ((with_reducible refine at_op (o := ⟨some 49, _, _, _, _, _⟩) ?_); go_loud (go_outline; fail "call 19"))
      | ((with_reducible refine at_op (o := ⟨some 9, _, _, _, _, _⟩) ?_); go_loud (refine wl_alloc rfl rfl hst zer26 ?_; intro b9 w9 hb9 hst1; clear hst; have hst := hst1; clear hst1))
      | ((with_reducible refine at_op (o := ⟨none, .store 26 (.tmp 9) (.tmp 49), _, _, _, _⟩) ?_); go_loud ((first | (refine wl_storeAll rfl rfl rfl rfl hst (by repeat (first | exact Pick.head | apply Pick.tail)) agg26 (by intro j hj; first | rfl | exact lstF_one rfl j hj | simp [oneC, hj]) (by (conv => lhs; simp only [put_lit, put_none, setL]) <;> rfl) ?_) | (refine wl_storeN rfl rfl rfl rfl hst (by repeat (first | exact Pick.head | apply Pick.tail)) (by omega) agg26 (by intro j hj; first | rfl | exact lstF_one rfl j hj | simp [oneC, hj]) (by (conv => lhs; simp only [put_lit, put_none, setL]) <;> rfl) ?_)); intro w1 hst1; clear hst; have hst := hst1; clear hst1)))
    go_ret
    exact ⟨_, rfl, rfl, hst.none⟩
  by_cases hm : 600 < n ∧ n ≤ 8160
  · obtain ⟨hm1, hm2⟩ := hm
    go_wp2_with (first
      | ((with_reducible refine at_op (o := ⟨some 3, _, _, _, _, _⟩) ?_); go_loud (refine wl_box rfl rfl rfl (by first | rfl | exact row_one _) hst ?_; intro b3 w3 hb3 hst1; clear hst; have hst := hst1; clear hst1))
      | ((with_reducible refine at_op (o := ⟨some 10, _, _, _, _, _⟩) ?_); go_loud (refine wl_call pl10 rfl rfl rfl (awake_any _ (hK.keep hst.none)) ?_; rintro v10 w10 ⟨rfl, hst10⟩; replace hst := hst.call hst10; clear hst10))
      | ((with_reducible refine at_op (o := ⟨some 15, _, _, _, _, _⟩) ?_); go_loud (refine wl_cmp (p := info.length) (q := 200) (r := false) (by simp [cmpI] <;> omega) rfl rfl rfl rfl rfl (by (conv => lhs; simp only [put_lit, put_none, setL]) <;> rfl) ?_))
      | ((with_reducible refine at_op (o := ⟨some 19, _, _, _, _, _⟩) ?_); go_loud (refine wl_cmp (p := n) (q := 600) (r := true) (by simp [cmpI] <;> omega) rfl rfl rfl rfl rfl (by (conv => lhs; simp only [put_lit, put_none, setL]) <;> rfl) ?_))
      | ((with_reducible refine at_op (o := ⟨some 22, _, _, _, _, _⟩) ?_); go_loud (refine wl_cmp (p := n) (q := 8160) (r := true) (by simp [cmpI] <;> omega) rfl rfl rfl rfl rfl (by (conv => lhs; simp only [put_lit, put_none, setL]) <;> rfl) ?_))
      | ((with_reducible refine at_op (o := ⟨some 25, _, _, _, _, _⟩) ?_); go_loud (refine wl_call pl10 rfl rfl rfl (awake_any _ (hK.keep hst.none)) ?_; rintro v25 w25 ⟨rfl, hst25⟩; replace hst := hst.call hst25; clear hst25))
      | ((with_reducible refine at_op (o := ⟨some 27, _, _, _, _, _⟩) ?_); go_loud ((first | (refine wl_loadAll rfl rfl rfl (by first | exact St.hasb hst (by repeat (first | exact Pick.head | apply Pick.tail)) | exact St.hasOld hst (by assumption) (by simp)) agg26 (by (conv => lhs; simp only [put_lit, put_none, setL]) <;> rfl) ?_) | (refine wl_loadN rfl rfl rfl (by first | exact St.hasb hst (by repeat (first | exact Pick.head | apply Pick.tail)) | exact St.hasOld hst (by assumption) (by simp)) agg26 (by omega) (by (conv => lhs; simp only [put_lit, put_none, setL]) <;> rfl) ?_))))
      | ((with_reducible refine at_op (o := ⟨some 30, _, _, _, _, _⟩) ?_); go_loud (go_outline; fail "call 18"))
      | ((with_reducible refine at_op (o := ⟨some 46, _, _, _, _, _⟩) ?_); go_loud ((first | (refine wl_loadAll rfl rfl rfl (by first | exact St.hasb hst (by repeat (first | exact Pick.head | apply Pick.tail)) | exact St.hasOld hst (by assumption) (by simp)) agg26 (by (conv => lhs; simp only [put_lit, put_none, setL]) <;> rfl) ?_) | (refine wl_loadN rfl rfl rfl (by first | exact St.hasb hst (by repeat (first | exact Pick.head | apply Pick.tail)) | exact St.hasOld hst (by assumption) (by simp)) agg26 (by omega) (by (conv => lhs; simp only [put_lit, put_none, setL]) <;> rfl) ?_))))
      | ((with_reducible refine at_op (o := ⟨some 49, _, _, _, _, _⟩) ?_); go_loud (go_outline; fail "call 19"))
      | ((with_reducible refine at_op (o := ⟨some 9, _, _, _, _, _⟩) ?_); go_loud (refine wl_alloc rfl rfl hst zer26 ?_; intro b9 w9 hb9 hst1; clear hst; have hst := hst1; clear hst1))
      | ((with_reducible refine at_op (o := ⟨none, .store 26 (.tmp 9) (.tmp 49), _, _, _, _⟩) ?_); go_loud ((first | (refine wl_storeAll rfl rfl rfl rfl hst (by repeat (first | exact Pick.head | apply Pick.tail)) agg26 (by intro j hj; first | rfl | exact lstF_one rfl j hj | simp [oneC, hj]) (by (conv => lhs; simp only [put_lit, put_none, setL]) <;> rfl) ?_) | (refine wl_storeN rfl rfl rfl rfl hst (by repeat (first | exact Pick.head | apply Pick.tail)) (by omega) agg26 (by intro j hj; first | rfl | exact lstF_one rfl j hj | simp [oneC, hj]) (by (conv => lhs; simp only [put_lit, put_none, setL]) <;> rfl) ?_)); intro w1 hst1; clear hst; have hst := hst1; clear hst1)))
    go_ret
    exact ⟨_, rfl, rfl, hst.none⟩
  have HIL : Hid (info.length ≤ 10000000000) := by show _ ≤ _; omega
  have HKN := Lib.hid hkn
  have HKL := Lib.hid hkl
  clear hkn hkl
  by_cases hneg : n < 0
  · have hno : n < 0 ∨ 8160 < n := .inl hneg
    go_wp2_with (first
      | ((with_reducible refine at_op (o := ⟨some 3, _, _, _, _, _⟩) ?_); go_loud (refine wl_box rfl rfl rfl (by first | rfl | exact row_one _) hst ?_; intro b3 w3 hb3 hst1; clear hst; have hst := hst1; clear hst1))
      | ((with_reducible refine at_op (o := ⟨some 10, _, _, _, _, _⟩) ?_); go_loud (refine wl_call pl10 rfl rfl rfl (awake_any _ (hK.keep hst.none)) ?_; rintro v10 w10 ⟨rfl, hst10⟩; replace hst := hst.call hst10; clear hst10))
      | ((with_reducible refine at_op (o := ⟨some 15, _, _, _, _, _⟩) ?_); go_loud (refine wl_cmp (p := info.length) (q := 200) (r := false) (by simp [cmpI] <;> omega) rfl rfl rfl rfl rfl (by (conv => lhs; simp only [put_lit, put_none, setL]) <;> rfl) ?_))
      | ((with_reducible refine at_op (o := ⟨some 19, _, _, _, _, _⟩) ?_); go_loud (refine wl_cmp (p := n) (q := 600) (r := false) (by simp [cmpI] <;> omega) rfl rfl rfl rfl rfl (by (conv => lhs; simp only [put_lit, put_none, setL]) <;> rfl) ?_))
      | ((with_reducible refine at_op (o := ⟨some 25, _, _, _, _, _⟩) ?_); go_loud (go_outline; fail "call 10"))
      | ((with_reducible refine at_op (o := ⟨some 27, _, _, _, _, _⟩) ?_); go_loud ((first | (refine wl_loadAll rfl rfl rfl (by first | exact St.hasb hst (by repeat (first | exact Pick.head | apply Pick.tail)) | exact St.hasOld hst (by assumption) (by simp)) agg26 (by (conv => lhs; simp only [put_lit, put_none, setL]) <;> rfl) ?_) | (refine wl_loadN rfl rfl rfl (by first | exact St.hasb hst (by repeat (first | exact Pick.head | apply Pick.tail)) | exact St.hasOld hst (by assumption) (by simp)) agg26 (by omega) (by (conv => lhs; simp only [put_lit, put_none, setL]) <;> rfl) ?_))))
      | ((with_reducible refine at_op (o := ⟨some 30, _, _, _, _, _⟩) ?_); go_loud (refine wl_call pl18 rfl rfl rfl (expand_no key _ n _ hno) ?_; rintro v30 w30 ⟨rfl, hst30⟩; replace hst := hst.call hst30; clear hst30))
      | ((with_reducible refine at_op (o := ⟨some 34, _, _, _, _, _⟩) ?_); go_loud (refine wl_cmp (p := n) (q := 0) (r := true) (by simp [cmpI] <;> omega) rfl rfl rfl rfl rfl (by (conv => lhs; simp only [put_lit, put_none, setL]) <;> rfl) ?_))
      | ((with_reducible refine at_op (o := ⟨some 40, _, _, _, _, _⟩) ?_); go_loud (refine wl_cmp (p := 1) (q := 1) (r := true) (by simp [cmpI] <;> omega) rfl rfl rfl rfl rfl (by (conv => lhs; simp only [put_lit, put_none, setL]) <;> rfl) ?_))
      | ((with_reducible refine at_op (o := ⟨some 44, _, _, _, _, _⟩) ?_); go_loud (refine wl_cmp (p := 0) (q := 0) (r := true) (by simp [cmpI] <;> omega) rfl rfl rfl rfl rfl (by (conv => lhs; simp only [put_lit, put_none, setL]) <;> rfl) ?_))
      | ((with_reducible refine at_op (o := ⟨some 46, _, _, _, _, _⟩) ?_); go_loud ((first | (refine wl_loadAll rfl rfl rfl (by first | exact St.hasb hst (by repeat (first | exact Pick.head | apply Pick.tail)) | exact St.hasOld hst (by assumption) (by simp)) agg26 (by (conv => lhs; simp only [put_lit, put_none, setL]) <;> rfl) ?_) | (refine wl_loadN rfl rfl rfl (by first | exact St.hasb hst (by repeat (first | exact Pick.head | apply Pick.tail)) | exact St.hasOld hst (by assumption) (by simp)) agg26 (by omega) (by (conv => lhs; simp only [put_lit, put_none, setL]) <;> rfl) ?_))))
      | ((with_reducible refine at_op (o := ⟨some 49, _, _, _, _, _⟩) ?_); go_loud (go_outline; fail "call 19"))
      | ((with_reducible refine at_op (o := ⟨some 9, _, _, _, _, _⟩) ?_); go_loud (refine wl_alloc rfl rfl hst zer26 ?_; intro b9 w9 hb9 hst1; clear hst; have hst := hst1; clear hst1))
      | ((with_reducible refine at_op (o := ⟨none, .store 26 (.tmp 9) (.tmp 49), _, _, _, _⟩) ?_); go_loud ((first | (refine wl_storeAll rfl rfl rfl rfl hst (by repeat (first | exact Pick.head | apply Pick.tail)) agg26 (by intro j hj; first | rfl | exact lstF_one rfl j hj | simp [oneC, hj]) (by (conv => lhs; simp only [put_lit, put_none, setL]) <;> rfl) ?_) | (refine wl_storeN rfl rfl rfl rfl hst (by repeat (first | exact Pick.head | apply Pick.tail)) (by omega) agg26 (by intro j hj; first | rfl | exact lstF_one rfl j hj | simp [oneC, hj]) (by (conv => lhs; simp only [put_lit, put_none, setL]) <;> rfl) ?_)); intro w1 hst1; clear hst; have hst := hst1; clear hst1)))
    go_ret
    exact ⟨_, rfl, rfl, hst.none⟩
  by_cases hbig : 8160 < n
  · have hno : n < 0 ∨ 8160 < n := .inr hbig
    go_wp2_with (first
      | ((with_reducible refine at_op (o := ⟨some 3, _, _, _, _, _⟩) ?_); go_loud (refine wl_box rfl rfl rfl (by first | rfl | exact row_one _) hst ?_; intro b3 w3 hb3 hst1; clear hst; have hst := hst1; clear hst1))
      | ((with_reducible refine at_op (o := ⟨some 10, _, _, _, _, _⟩) ?_); go_loud (refine wl_call pl10 rfl rfl rfl (awake_any _ (hK.keep hst.none)) ?_; rintro v10 w10 ⟨rfl, hst10⟩; replace hst := hst.call hst10; clear hst10))
      | ((with_reducible refine at_op (o := ⟨some 15, _, _, _, _, _⟩) ?_); go_loud (refine wl_cmp (p := info.length) (q := 200) (r := false) (by simp [cmpI] <;> omega) rfl rfl rfl rfl rfl (by (conv => lhs; simp only [put_lit, put_none, setL]) <;> rfl) ?_))
      | ((with_reducible refine at_op (o := ⟨some 19, _, _, _, _, _⟩) ?_); go_loud (refine wl_cmp (p := n) (q := 600) (r := true) (by simp [cmpI] <;> omega) rfl rfl rfl rfl rfl (by (conv => lhs; simp only [put_lit, put_none, setL]) <;> rfl) ?_))
      | ((with_reducible refine at_op (o := ⟨some 22, _, _, _, _, _⟩) ?_); go_loud (refine wl_cmp (p := n) (q := 8160) (r := false) (by simp [cmpI] <;> omega) rfl rfl rfl rfl rfl (by (conv => lhs; simp only [put_lit, put_none, setL]) <;> rfl) ?_))
      | ((with_reducible refine at_op (o := ⟨some 25, _, _, _, _, _⟩) ?_); go_loud (go_outline; fail "call 10"))
      | ((with_reducible refine at_op (o := ⟨some 27, _, _, _, _, _⟩) ?_); go_loud ((first | (refine wl_loadAll rfl rfl rfl (by first | exact St.hasb hst (by repeat (first | exact Pick.head | apply Pick.tail)) | exact St.hasOld hst (by assumption) (by simp)) agg26 (by (conv => lhs; simp only [put_lit, put_none, setL]) <;> rfl) ?_) | (refine wl_loadN rfl rfl rfl (by first | exact St.hasb hst (by repeat (first | exact Pick.head | apply Pick.tail)) | exact St.hasOld hst (by assumption) (by simp)) agg26 (by omega) (by (conv => lhs; simp only [put_lit, put_none, setL]) <;> rfl) ?_))))
      | ((with_reducible refine at_op (o := ⟨some 30, _, _, _, _, _⟩) ?_); go_loud (refine wl_call pl18 rfl rfl rfl (expand_no key _ n _ hno) ?_; rintro v30 w30 ⟨rfl, hst30⟩; replace hst := hst.call hst30; clear hst30))
      | ((with_reducible refine at_op (o := ⟨some 34, _, _, _, _, _⟩) ?_); go_loud (refine wl_cmp (p := n) (q := 0) (r := false) (by simp [cmpI] <;> omega) rfl rfl rfl rfl rfl (by (conv => lhs; simp only [put_lit, put_none, setL]) <;> rfl) ?_))
      | ((with_reducible refine at_op (o := ⟨some 37, _, _, _, _, _⟩) ?_); go_loud (refine wl_cmp (p := n) (q := 8160) (r := true) (by simp [cmpI] <;> omega) rfl rfl rfl rfl rfl (by (conv => lhs; simp only [put_lit, put_none, setL]) <;> rfl) ?_))
      | ((with_reducible refine at_op (o := ⟨some 40, _, _, _, _, _⟩) ?_); go_loud (refine wl_cmp (p := 1) (q := 1) (r := true) (by simp [cmpI] <;> omega) rfl rfl rfl rfl rfl (by (conv => lhs; simp only [put_lit, put_none, setL]) <;> rfl) ?_))
      | ((with_reducible refine at_op (o := ⟨some 44, _, _, _, _, _⟩) ?_); go_loud (refine wl_cmp (p := 0) (q := 0) (r := true) (by simp [cmpI] <;> omega) rfl rfl rfl rfl rfl (by (conv => lhs; simp only [put_lit, put_none, setL]) <;> rfl) ?_))
      | ((with_reducible refine at_op (o := ⟨some 46, _, _, _, _, _⟩) ?_); go_loud ((first | (refine wl_loadAll rfl rfl rfl (by first | exact St.hasb hst (by repeat (first | exact Pick.head | apply Pick.tail)) | exact St.hasOld hst (by assumption) (by simp)) agg26 (by (conv => lhs; simp only [put_lit, put_none, setL]) <;> rfl) ?_) | (refine wl_loadN rfl rfl rfl (by first | exact St.hasb hst (by repeat (first | exact Pick.head | apply Pick.tail)) | exact St.hasOld hst (by assumption) (by simp)) agg26 (by omega) (by (conv => lhs; simp only [put_lit, put_none, setL]) <;> rfl) ?_))))
      | ((with_reducible refine at_op (o := ⟨some 49, _, _, _, _, _⟩) ?_); go_loud (go_outline; fail "call 19"))
      | ((with_reducible refine at_op (o := ⟨some 9, _, _, _, _, _⟩) ?_); go_loud (refine wl_alloc rfl rfl hst zer26 ?_; intro b9 w9 hb9 hst1; clear hst; have hst := hst1; clear hst1))
      | ((with_reducible refine at_op (o := ⟨none, .store 26 (.tmp 9) (.tmp 49), _, _, _, _⟩) ?_); go_loud ((first | (refine wl_storeAll rfl rfl rfl rfl hst (by repeat (first | exact Pick.head | apply Pick.tail)) agg26 (by intro j hj; first | rfl | exact lstF_one rfl j hj | simp [oneC, hj]) (by (conv => lhs; simp only [put_lit, put_none, setL]) <;> rfl) ?_) | (refine wl_storeN rfl rfl rfl rfl hst (by repeat (first | exact Pick.head | apply Pick.tail)) (by omega) agg26 (by intro j hj; first | rfl | exact lstF_one rfl j hj | simp [oneC, hj]) (by (conv => lhs; simp only [put_lit, put_none, setL]) <;> rfl) ?_)); intro w1 hst1; clear hst; have hst := hst1; clear hst1)))
    go_ret
    exact ⟨_, rfl, rfl, hst.none⟩
  have hm600 : n ≤ 600 := by omega
  obtain ⟨m, rfl⟩ : ∃ m : Nat, n = (m : Int) := ⟨n.toNat, by omega⟩
  have hm6 : m ≤ 600 := by omega
  clear hn1 hn2 hm hneg hbig hm600
  go_wp2_with (first
      | ((with_reducible refine at_op (o := ⟨some 3, _, _, _, _, _⟩) ?_); go_loud (refine wl_box rfl rfl rfl (by first | rfl | exact row_one _) hst ?_; intro b3 w3 hb3 hst1; clear hst; have hst := hst1; clear hst1))
      | ((with_reducible refine at_op (o := ⟨some 10, _, _, _, _, _⟩) ?_); go_loud (refine wl_call pl10 rfl rfl rfl (awake_any _ (hK.keep hst.none)) ?_; rintro v10 w10 ⟨rfl, hst10⟩; replace hst := hst.call hst10; clear hst10))
      | ((with_reducible refine at_op (o := ⟨some 15, _, _, _, _, _⟩) ?_); go_loud (refine wl_cmp (p := info.length) (q := 200) (r := false) (by simp [cmpI] <;> omega) rfl rfl rfl rfl rfl (by (conv => lhs; simp only [put_lit, put_none, setL]) <;> rfl) ?_))
      | ((with_reducible refine at_op (o := ⟨some 19, _, _, _, _, _⟩) ?_); go_loud (refine wl_cmp (p := (m : Int)) (q := 600) (r := false) (by simp [cmpI] <;> omega) rfl rfl rfl rfl rfl (by (conv => lhs; simp only [put_lit, put_none, setL]) <;> rfl) ?_))
      | ((with_reducible refine at_op (o := ⟨some 25, _, _, _, _, _⟩) ?_); go_loud (go_outline; fail "call 10"))
      | ((with_reducible refine at_op (o := ⟨some 27, _, _, _, _, _⟩) ?_); go_loud ((first | (refine wl_loadAll rfl rfl rfl (by first | exact St.hasb hst (by repeat (first | exact Pick.head | apply Pick.tail)) | exact St.hasOld hst (by assumption) (by simp)) agg26 (by (conv => lhs; simp only [put_lit, put_none, setL]) <;> rfl) ?_) | (refine wl_loadN rfl rfl rfl (by first | exact St.hasb hst (by repeat (first | exact Pick.head | apply Pick.tail)) | exact St.hasOld hst (by assumption) (by simp)) agg26 (by omega) (by (conv => lhs; simp only [put_lit, put_none, setL]) <;> rfl) ?_))))
      | ((with_reducible refine at_op (o := ⟨some 30, _, _, _, _, _⟩) ?_); go_loud (refine wl_call pl18 rfl rfl rfl (expand_own key _ info m _ HKN.out HKL.out (h.keep hst.none) HIL.out (by omega) (hK.keep hst.none)) ?_; rintro v30 w30 ⟨ad30, E30, rfl, hB30, hP30, hst30⟩; replace hst := hst.call hst30; clear hst30))
      | ((with_reducible refine at_op (o := ⟨some 34, _, _, _, _, _⟩) ?_); go_loud (refine wl_cmp (p := (m : Int)) (q := 0) (r := false) (by simp [cmpI] <;> omega) rfl rfl rfl rfl rfl (by (conv => lhs; simp only [put_lit, put_none, setL]) <;> rfl) ?_))
      | ((with_reducible refine at_op (o := ⟨some 37, _, _, _, _, _⟩) ?_); go_loud (refine wl_cmp (p := (m : Int)) (q := 8160) (r := false) (by simp [cmpI] <;> omega) rfl rfl rfl rfl rfl (by (conv => lhs; simp only [put_lit, put_none, setL]) <;> rfl) ?_))
      | ((with_reducible refine at_op (o := ⟨some 46, _, _, _, _, _⟩) ?_); go_loud (have hb3' : Has w30 b3 32 (bF key) := ⟨_, _, hst.own (b3, blk 32 (bF key) 26) (by simp)⟩; have hstA := hst; clear hst; have hst := St.refl w30; replace h := h.keep hstA.none; replace hK := hK.keep hstA.none; replace hK0 := hK0.keep hstA.none; (first | (refine wl_loadAll rfl rfl rfl (by first | exact St.hasb hst (by repeat (first | exact Pick.head | apply Pick.tail)) | exact St.hasOld hst (by assumption) (by simp)) agg26 (by (conv => lhs; simp only [put_lit, put_none, setL]) <;> rfl) ?_) | (refine wl_loadN rfl rfl rfl (by first | exact St.hasb hst (by repeat (first | exact Pick.head | apply Pick.tail)) | exact St.hasOld hst (by assumption) (by simp)) agg26 (by omega) (by (conv => lhs; simp only [put_lit, put_none, setL]) <;> rfl) ?_))))
      | ((with_reducible refine at_op (o := ⟨some 48, _, _, _, _, _⟩) ?_); go_loud (refine wl_b2s rfl rfl Tryd.underlying29 Tryd.underlying5 Tryd.underlying9 rfl (h.keep hst.none) (by (conv => lhs; simp only [put_lit, put_none, setL]) <;> rfl) ?_))
      | ((with_reducible refine at_op (o := ⟨some 49, _, _, _, _, _⟩) ?_); go_loud (refine wl_call pl19 rfl rfl rfl (derive_any key info _ HKN.out HKL.out h.lt HIL.out (hK.keep hst.none)) ?_; rintro v49 w49 ⟨rfl, hst49⟩; replace hst := hst.call hst49; clear hst49))
      | ((with_reducible refine at_op (o := ⟨some 9, _, _, _, _, _⟩) ?_); go_loud (refine wl_alloc rfl rfl hst zer26 ?_; intro b9 w9 hb9 hst1; clear hst; have hst := hst1; clear hst1))
      | ((with_reducible refine at_op (o := ⟨none, .store 26 (.tmp 9) (.tmp 49), _, _, _, _⟩) ?_); go_loud ((first | (refine wl_storeAll rfl rfl rfl rfl hst (by repeat (first | exact Pick.head | apply Pick.tail)) agg26 (by intro j hj; first | rfl | exact lstF_one rfl j hj | simp [oneC, hj]) (by (conv => lhs; simp only [put_lit, put_none, setL]) <;> rfl) ?_) | (refine wl_storeN rfl rfl rfl rfl hst (by repeat (first | exact Pick.head | apply Pick.tail)) (by omega) agg26 (by intro j hj; first | rfl | exact lstF_one rfl j hj | simp [oneC, hj]) (by (conv => lhs; simp only [put_lit, put_none, setL]) <;> rfl) ?_)); intro w1 hst1; clear hst; have hst := hst1; clear hst1)))
  have HH : Hid (∀ w', St w30 [] [] w' → Bs w' (.slice ad info.length c) info) := by show ∀ _, _; exact fun w' h' => h.keep h'
  have HB7 : Hid (∀ w', St w30 [] [] w' → Bs w' (.slice ad30 m m) (Sha.expand key info m)) := by show ∀ _, _; exact fun w' h' => hB30.keep h'
  have HB9 : Hid (∀ L w', St w30 [] L w' → (b9, blk 32 (bF (Sha.expand key info 32)) 26) ∈ L → Bs w' (.slice (some ⟨b9, 0, none⟩) 32 32) (Sha.expand key info 32)) := by
    show ∀ _, _
    intro L w' hst hm
    exact Bs.of_blk (cap := 32) (off := 0) (l := Sha.expand key info 32) ⟨_, _, hst.own _ hm⟩ (by rw [expand_len]; omega) (fun j _ => by rw [Nat.zero_add]) (expand_lt _ _ _) (by rw [expand_len]; omega) (by simp [maxLen])
  have HK0 := Lib.hid hK0
  have e1 := expand_len key info 32
  have hstB := hstA.none
  clear hstA hK0 hP30 hB30 h
  refine rg_start (St w30 [] [(b9, blk 32 (bF (Sha.expand key info 32)) 26)]) mixed (hst.drew) ?_
  refine rg_take [0, 1, 2, 3, 4, 5, 6, 7] 14 _ rfl (by kernel_rfl) (by kernel_rfl) rfl (cls_st _ _ _) (fun _ _ _ _ _ h => h) ?_
  refine tk_wp rfl rfl rfl (by rfl) (fun w hst K hK => (by go_step; exact hK _ (Below.refl _ _))) (by rfl) (by rfl) ?_
  refine tk_cmp (p := 0) (q := 0) (r := true) (by simp [cmpI] <;> omega) rfl rfl rfl rfl rfl rfl (by (conv => lhs; simp only [put_lit, put_none, setL]) <;> rfl) ?_
  refine tk_wp rfl rfl rfl (by rfl) (fun w hst K hK => (by go_step; exact hK _ (Below.refl _ _))) (by rfl) (by rfl) ?_
  first | (refine tk_skip rfl (by rfl) (by (conv => lhs; simp only [put_lit, put_none, setL]) <;> rfl) ?_) | (refine tk_wp rfl rfl rfl (by rfl) (fun w hst K hK => (by go_step; exact hK _ (Below.refl _ _))) (by rfl) (by rfl) ?_)
  first | (refine tk_skip rfl (by rfl) (by (conv => lhs; simp only [put_lit, put_none, setL]) <;> rfl) ?_) | (refine tk_b2s rfl rfl rfl Tryd.underlying29 Tryd.underlying5 Tryd.underlying9 rfl (fun w hst => HB7.out w hst.none) (by (conv => lhs; simp only [put_lit, put_none, setL]) <;> rfl) ?_)
  first | (refine tk_skip rfl (by rfl) (by (conv => lhs; simp only [put_lit, put_none, setL]) <;> rfl) ?_) | (first | (refine tk_loadAll rfl rfl (by rfl) rfl (fun w hst => (by first | exact St.hasb hst (by repeat (first | exact Pick.head | apply Pick.tail)) | exact St.hasOld hst (by assumption) (by simp))) agg26 (by (conv => lhs; simp only [put_lit, put_none, setL]) <;> rfl) ?_) | (refine tk_loadN rfl rfl (by rfl) rfl (fun w hst => (by first | exact St.hasb hst (by repeat (first | exact Pick.head | apply Pick.tail)) | exact St.hasOld hst (by assumption) (by simp))) agg26 (by omega) (by (conv => lhs; simp only [put_lit, put_none, setL]) <;> rfl) ?_))
  first | (refine tk_skip rfl (by rfl) (by (conv => lhs; simp only [put_lit, put_none, setL]) <;> rfl) ?_) | (refine tk_wp rfl rfl rfl (by rfl) (fun w hst K hK => (by go_step; exact hK _ (Below.refl _ _))) (by rfl) (by rfl) ?_)
  first | (refine tk_skip rfl (by rfl) (by (conv => lhs; simp only [put_lit, put_none, setL]) <;> rfl) ?_) | (refine tk_wp rfl rfl rfl (by rfl) (fun w hst K hK => (by go_step; exact hK _ (Below.refl _ _))) (by rfl) (by rfl) ?_)
  refine tk_nil ?_
  refine rg_st (i := 8) (n := 13) (by kernel_rfl) rfl rfl rfl (fun w' hst => wo_call pl20 rfl rfl (refexpand_any key _ info m _ HKN.out HKL.out (HH.out _ hst.none) HIL.out (by omega) (HK0.out.keep hst.none)) (fun v58 w58 hR58 => ?_))
  obtain ⟨E58, hown58, hst58⟩ := hR58
  refine ⟨E58, hst.call hst58, ?_⟩
  simp only [put_lit, setL]
  refine rg_take [9, 10, 11, 12, 13, 14, 15, 16] 5 _ rfl (by kernel_rfl) (by kernel_rfl) rfl (cls_st _ _ _) (fun _ _ _ _ _ h => h) ?_
  first | (refine tk_skip rfl (by rfl) (by (conv => lhs; simp only [put_lit, put_none, setL]) <;> rfl) ?_) | (refine tk_b2s rfl rfl rfl Tryd.underlying29 Tryd.underlying5 Tryd.underlying9 rfl (fun w hst => (fun w hst => Bs.of_own (hown58.len (expand_len key info m).symm) (expand_lt key info m) hst) w hst) (by (conv => lhs; simp only [put_lit, put_none, setL]) <;> rfl) ?_)
  first | (refine tk_skip rfl (by rfl) (by (conv => lhs; simp only [put_lit, put_none, setL]) <;> rfl) ?_) | (refine tk_eqS rfl rfl rfl Tryd.underlying9 rfl rfl rfl (by (conv => lhs; simp only [put_lit, put_none, setL]) <;> rfl) ?_)
  refine tk_wp rfl rfl rfl (by rfl) (fun w hst K hK => (by go_step; exact hK _ (Below.refl _ _))) (by rfl) (by rfl) ?_
  refine tk_wp rfl rfl rfl (by rfl) (fun w hst K hK => (by go_step; exact hK _ (Below.refl _ _))) (by rfl) (by rfl) ?_
  first | (refine tk_skip rfl (by rfl) (by (conv => lhs; simp only [put_lit, put_none, setL]) <;> rfl) ?_) | (refine tk_wp rfl rfl rfl (by rfl) (fun w hst K hK => (by go_step; exact hK _ (Below.refl _ _))) (by rfl) (by rfl) ?_)
  first | (refine tk_skip rfl (by rfl) (by (conv => lhs; simp only [put_lit, put_none, setL]) <;> rfl) ?_) | (refine tk_b2s rfl rfl rfl Tryd.underlying29 Tryd.underlying5 Tryd.underlying9 rfl (fun w hst => HB9.out _ w hst (by simp)) (by (conv => lhs; simp only [put_lit, put_none, setL]) <;> rfl) ?_)
  first | (refine tk_skip rfl (by rfl) (by (conv => lhs; simp only [put_lit, put_none, setL]) <;> rfl) ?_) | (first | (refine tk_loadAll rfl rfl (by rfl) rfl (fun w hst => (by first | exact St.hasb hst (by repeat (first | exact Pick.head | apply Pick.tail)) | exact St.hasOld hst (by assumption) (by simp))) agg26 (by (conv => lhs; simp only [put_lit, put_none, setL]) <;> rfl) ?_) | (refine tk_loadN rfl rfl (by rfl) rfl (fun w hst => (by first | exact St.hasb hst (by repeat (first | exact Pick.head | apply Pick.tail)) | exact St.hasOld hst (by assumption) (by simp))) agg26 (by omega) (by (conv => lhs; simp only [put_lit, put_none, setL]) <;> rfl) ?_))
  first | (refine tk_skip rfl (by rfl) (by (conv => lhs; simp only [put_lit, put_none, setL]) <;> rfl) ?_) | (refine tk_wp rfl rfl rfl (by rfl) (fun w hst K hK => (by go_step; exact hK _ (Below.refl _ _))) (by rfl) (by rfl) ?_)
  refine tk_nil ?_
  refine rg_st (i := 17) (n := 4) (by kernel_rfl) rfl rfl rfl (fun w' hst => wo_call pl20 rfl rfl (refexpand_any key _ info 32 _ HKN.out HKL.out (HH.out _ hst.none) HIL.out (by decide) (HK0.out.keep hst.none)) (fun v67 w67 hR67 => ?_))
  obtain ⟨E67, hown67, hst67⟩ := hR67
  refine ⟨E67, hst.call hst67, ?_⟩
  simp only [put_lit, setL]
  refine rg_take [18, 19, 20, 21] 0 _ rfl (by kernel_rfl) (by kernel_rfl) rfl (cls_st _ _ _) (fun _ _ _ _ _ h => h) ?_
  first | (refine tk_skip rfl (by rfl) (by (conv => lhs; simp only [put_lit, put_none, setL]) <;> rfl) ?_) | (refine tk_b2s rfl rfl rfl Tryd.underlying29 Tryd.underlying5 Tryd.underlying9 rfl (fun w hst => (fun w hst => Bs.of_own (hown67.len (expand_len key info 32).symm) (expand_lt key info 32) hst) w hst) (by (conv => lhs; simp only [put_lit, put_none, setL]) <;> rfl) ?_)
  first | (refine tk_skip rfl (by rfl) (by (conv => lhs; simp only [put_lit, put_none, setL]) <;> rfl) ?_) | (refine tk_eqS rfl rfl rfl Tryd.underlying9 rfl rfl rfl (by (conv => lhs; simp only [put_lit, put_none, setL]) <;> rfl) ?_)
  refine tk_wp rfl rfl rfl (by rfl) (fun w hst K hK => (by go_step; exact hK _ (Below.refl _ _))) (by rfl) (by rfl) ?_
  refine tk_wp rfl rfl rfl (by rfl) (fun w hst K hK => (by go_step; exact hK _ (Below.refl _ _))) (by rfl) (by rfl) ?_
  refine tk_nil ?_
  refine rg_done (by kernel_rfl) (fun w1 hst1 => ?_) _
  clear hst
  have hst := hst1
  clear hst1
  go_wp2_with fail
  go_ret
  exact ⟨_, rfl, rfl, hstB.call hst.none⟩
end Go.Proofs.YtpidapgglkoogaaDoor
