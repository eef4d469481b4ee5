/- The plain statement of CtrlFinal over the printed functions stands in the text that is imported. -/
import Derived.Test.YtbailgigabdhaaaDoorCtrlFinal
