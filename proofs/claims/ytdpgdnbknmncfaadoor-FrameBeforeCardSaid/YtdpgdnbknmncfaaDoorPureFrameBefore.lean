/- The plain statement of FrameBefore over the printed functions stands in the text that is imported. -/
import Derived.Test.YtdpgdnbknmncfaaDoorLawsFrameBefore
